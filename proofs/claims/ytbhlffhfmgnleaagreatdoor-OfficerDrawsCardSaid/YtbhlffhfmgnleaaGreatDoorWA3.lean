/- Operations, fifth part: aggregates and slices that are made. -/
import Derived.Test.YtbhlffhfmgnleaaGreatDoorWA2
import Derived.ArgAppend
import Derived.Laws.Append
import Derived.Laws.BytesString
import Derived.Laws.StructEq
import Derived.Laws.Small
set_option linter.all false
namespace Go.Ab
open Go
variable [Globs]

theorem foldl_set (off : Nat) : ∀ (l : List Value) (k : Nat) (c : Array Value),
    ((l.zipIdx k).foldl (fun cs p => cs.setIfInBounds (off + p.2) p.1) c).toList = setRange c.toList (off + k) l
  | [], k, c => by simp [setRange]
  | v :: l, k, c => by
    simp only [List.zipIdx_cons, List.foldl_cons, setRange]
    rw [foldl_set off l (k + 1)]
    simp [Nat.add_assoc]

theorem fill_ok {X : Cx} {place : Nat → Option (Nat × Nat)} : ∀ {parts : List (Nat × D)} {vs : List (Nat × Value)} {cells cs : List D} {c : Array Value},
    parts.length = vs.length → (∀ (j : Nat) (p : Nat × D) (v : Nat × Value), parts[j]? = some p → vs[j]? = some v → p.1 = v.1 ∧ DR X p.2 v.2) → c.size = cells.length → OneC (fun j => c.getD j undef) c.size → DRs X cells (fun j => c.getD j undef) →
    fill place cells parts = some cs → ∃ c', Instr.fill place c vs = some c' ∧ c'.size = cs.length ∧ OneC (fun j => c'.getD j undef) c'.size ∧ DRs X cs (fun j => c'.getD j undef)
  | [], [], cells, cs, c, _, _, hs, h1, hd, h => by
    simp only [fill, Option.some.injEq] at h
    subst h
    exact ⟨c, rfl, hs, h1, hd⟩
  | (i, d) :: parts, (i', v) :: vs, cells, cs, c, hl, hp, hs, h1, hd, h => by
    have h0 := hp 0 (i, d) (i', v) rfl rfl
    simp only at h0
    obtain ⟨rfl, hdv⟩ := h0
    simp only [fill, Option.bind_eq_some_iff] at h
    obtain ⟨⟨off, sz⟩, h2, dcs, h3, h⟩ := h
    by_cases hc : sz = dcs.length ∧ off + sz ≤ cells.length
    · obtain ⟨rfl, hle⟩ := hc
      simp [hle] at h
      obtain ⟨e1, e2, e3⟩ := cells?_ok hdv h3
      have hfold : (v.cells.zipIdx.foldl (fun cs (p : Value × Nat) => cs.setIfInBounds (off + p.2) p.1) c).toList = setRange c.toList off v.cells.toList := by
        have := foldl_set off v.cells.toList 0 c
        rw [Nat.add_zero] at this
        rw [← this]
        congr 1
        rw [← Array.foldl_toList, Array.toList_zipIdx]
      have hle' : off + v.cells.toList.length ≤ c.toList.length := by simp; omega
      have hget : ∀ j, (v.cells.zipIdx.foldl (fun cs (p : Value × Nat) => cs.setIfInBounds (off + p.2) p.1) c).getD j undef =
          if off ≤ j ∧ j < off + dcs.length then v.cells.getD (j - off) undef else c.getD j undef := fun j => by
        rw [← getD_toList, hfold, List.getD_eq_getElem?_getD, setRange_get _ _ _ hle']
        have : v.cells.toList.length = dcs.length := by simpa using e1
        rw [this]
        by_cases hj : off ≤ j ∧ j < off + dcs.length
        · rw [if_pos hj, if_pos hj, ← List.getD_eq_getElem?_getD, getD_toList]
        · rw [if_neg hj, if_neg hj, ← List.getD_eq_getElem?_getD, getD_toList]
      have hsz : (v.cells.zipIdx.foldl (fun cs (p : Value × Nat) => cs.setIfInBounds (off + p.2) p.1) c).size = c.size := by
        rw [← Array.length_toList, hfold, setRange_length, Array.length_toList]
      have ih := fill_ok (X := X) (place := place) (parts := parts) (vs := vs) (cells := setRange cells off dcs) (cs := cs) (c := v.cells.zipIdx.foldl (fun cs (p : Value × Nat) => cs.setIfInBounds (off + p.2) p.1) c)
        (by simpa using hl) (fun j p v hj hv => hp (j + 1) p v (by simpa using hj) (by simpa using hv)) (by rw [hsz, setRange_length, hs])
        (fun j hj => by
          show (Array.getD _ j undef).oneCell' = true
          rw [hget]
          rw [hsz] at hj
          by_cases hjj : off ≤ j ∧ j < off + dcs.length
          · rw [if_pos hjj]; exact e2 _ (by omega)
          · rw [if_neg hjj]; exact h1 j hj)
        (by
          rw [DRs_iff] at hd e3 ⊢
          intro j x hj
          show DR X x (Array.getD _ j undef)
          rw [hget]
          rw [setRange_get _ _ _ hle] at hj
          by_cases hjj : off ≤ j ∧ j < off + dcs.length
          · rw [if_pos hjj] at hj ⊢; exact e3 _ x hj
          · rw [if_neg hjj] at hj ⊢; exact hd j x hj)
        h
      obtain ⟨c', g1, g2⟩ := ih
      refine ⟨c', ?_, g2⟩
      simp only [Instr.fill, h2]
      rw [if_neg (by simp; omega)]
      exact g1
    · exfalso
      rcases Decidable.not_and_iff_not_or_not.1 hc with hc | hc
      · have hm' : (sz == dcs.length) = false := by simpa using hc
        simp [hm'] at h
      · simp [hc] at h
  | [], _ :: _, _, _, _, hl, _, _, _, _, _ => by simp at hl
  | _ :: _, [], _, _, _, hl, _, _, _, _, _ => by simp at hl

theorem run_places {P : Program} {w : World} : ∀ {fs : List Field} {ps : List (Nat × Nat)}, places P fs = some ps →
    (fs.mapM fun f => do pure (f.offset, ← sizeOf f.type) : Sem (List (Nat × Nat))).run P w = .ok ps w
  | [], ps, h => by simp only [places, Option.some.injEq] at h; subst h; simp
  | f :: fs, ps, h => by
    simp only [places, Option.bind_eq_some_iff, Option.some.injEq] at h
    obtain ⟨n, h1, r, h2, rfl⟩ := h
    have ih := run_places (P := P) (w := w) h2
    rw [List.mapM_cons, Sem.run_bind, Sem.run_bind, run_size w h1, Result.andThen_ok, Sem.run_pure, Result.andThen_ok, Sem.run_bind, ih]
    rfl

section
variable {P : Program} {o : Oper} {X : Cx} {a : Act} (hX : StoR X)
include hX

def PartsR (X : Cx) (a : Act) (ps : List (Nat × D)) (ops : List (Nat × Operand)) : Prop :=
  ps.length = ops.length ∧ ∀ (j : Nat) (p : Nat × D) (q : Nat × Operand), ps[j]? = some p → ops[j]? = some q → p.1 = q.1 ∧ DR X p.2 (a.eval q.2)

omit hX in
theorem PartsR.vals {ps : List (Nat × D)} {ops : Array (Nat × Operand)} (h : PartsR X a ps ops.toList) :
    ps.length = (ops.map fun p => (p.1, a.eval p.2)).toList.length ∧ ∀ (j : Nat) (p : Nat × D) (v : Nat × Value), ps[j]? = some p → (ops.map fun p => (p.1, a.eval p.2)).toList[j]? = some v → p.1 = v.1 ∧ DR X p.2 v.2 := by
  refine ⟨by simpa using h.1, fun j p v hp hv => ?_⟩
  simp only [Array.toList_map, List.getElem?_map, Option.map_eq_some_iff] at hv
  obtain ⟨q, hq, rfl⟩ := hv
  exact h.2 j p q hp hq

omit hX in
theorem zero_cells {t : TypeId} {z : List V} (hz : zero? P t = some z) : ∃ u, (zeroValue t).run P X.w = .ok u X.w ∧ u.cells.size = z.length ∧ OneC (fun j => u.cells.getD j undef) u.cells.size ∧
    (∀ j v, z[j]? = some v → VR X.w X.S v (u.cells.getD j undef)) := by
  obtain ⟨u, h1, h2⟩ := run_zero X.w hz
  obtain ⟨h3, h4⟩ := ofCells_VR (w := X.w) (S := X.S) h2
  have hg : ∀ j v, z[j]? = some v → VR X.w X.S v (u.cells.getD j undef) := fun j v hj => by
    have := h4 j v hj
    rwa [getD_toList] at this
  have hs : u.cells.size = z.length := by simpa using h3.symm
  exact ⟨u, h1, hs, fun j hj => (hg j z[j] (List.getElem?_eq_getElem (by omega))).one, hg⟩

theorem sim_build {t : TypeId} {ops : Array (Nat × Operand)} (ho : o.op = .build t ops) {ps : List (Nat × D)} (hps : PartsR X a ps ops.toList) {z : List V} (hz : zero? P t = some z) {d : D}
    (h : (∃ fs pl, P.underlying t = some (.struct fs) ∧ places P fs.toList = some pl ∧ bu pl z ps = some d) ∨ (∃ n e s, P.underlying t = some (.array n e) ∧ size? P e = some s ∧ buA s z ps = some d)) :
    Sim P o X a (fun X' u => DR X' d u ∧ X'.τ = X.τ) := by
  obtain ⟨u, z1, z2, z3, z4⟩ := zero_cells (X := X) hz
  obtain ⟨v1, v2⟩ := PartsR.vals hps
  rcases h with ⟨fs, pl, h1, h2, h3⟩ | ⟨n, e, s, h1, h2, h3⟩
  · simp only [bu, Option.bind_eq_some_iff, Option.some.injEq] at h3
    obtain ⟨cs, h4, rfl⟩ := h3
    obtain ⟨c', g1, g2, g3, g4⟩ := fill_ok v1 v2 (by simpa using z2) z3 (DRs_v.2 z4) h4
    refine Sim.value (X' := X) (u := .agg c') ?_ (Ext.refl X) hX ⟨by simp only [DR]; exact ⟨c', rfl, g2, g3, g4⟩, rfl⟩
    have hp := run_places (P := P) (w := X.w) h2
    have hpa : (fs.mapM fun f => do pure (f.offset, ← sizeOf f.type) : Sem (Array (Nat × Nat))).run P X.w = .ok pl.toArray X.w := by
      rw [Array.mapM_eq_mapM_toList]
      simp only [Sem.run_map, hp, Result.andThen_ok]
    have g1' : Instr.fill (fun x => pl.toArray[x]?) u.cells (ops.map fun p => (p.1, a.eval p.2)).toList = some c' := by
      rw [← g1]; congr 1; funext x; simp
    simp only [execOp, ho, Instr.build, Sem.run_bind, z1, Result.andThen_ok, run_under X.w h1]
    rw [hpa]
    simp only [Result.andThen_ok]
    rw [g1']
    simp
  · simp only [buA, Option.bind_eq_some_iff, Option.some.injEq] at h3
    obtain ⟨cs, h4, rfl⟩ := h3
    obtain ⟨c', g1, g2, g3, g4⟩ := fill_ok v1 v2 (by simpa using z2) z3 (DRs_v.2 z4) h4
    refine Sim.value (X' := X) (u := .agg c') ?_ (Ext.refl X) hX ⟨by simp only [DR]; exact ⟨c', rfl, g2, g3, g4⟩, rfl⟩
    simp only [execOp, ho, Instr.build, Sem.run_bind, z1, Result.andThen_ok, run_under X.w h1, run_size X.w h2]
    rw [g1]
    simp
end

end Go.Ab

/- Operations, sixth part: slice literals, make, len. -/
namespace Go.Ab
open Go
variable [Globs]

theorem fillParts_fill {n : Nat} : ∀ {parts : List (Nat × D)} {cells cs : List D}, fillParts n cells parts = some cs → fill (fun i => some (i * n, n)) cells parts = some cs
  | [], cells, cs, h => h
  | (i, d) :: rest, cells, cs, h => by
    simp only [fillParts, Option.bind_eq_some_iff] at h
    obtain ⟨dcs, h1, h⟩ := h
    by_cases hc : dcs.length = n ∧ i * n + n ≤ cells.length
    · obtain ⟨rfl, hle⟩ := hc
      simp [hle] at h
      simp [fill, h1, hle, fillParts_fill h]
    · exfalso
      rcases Decidable.not_and_iff_not_or_not.1 hc with hc | hc
      · have hm' : (dcs.length == n) = false := by simpa using hc
        simp [hm'] at h
      · simp [hc] at h

theorem fill_length {place : Nat → Option (Nat × Nat)} : ∀ {parts : List (Nat × D)} {cells cs : List D}, fill place cells parts = some cs → cs.length = cells.length
  | [], cells, cs, h => by simp only [fill, Option.some.injEq] at h; rw [h]
  | (i, d) :: rest, cells, cs, h => by
    simp only [fill, Option.bind_eq_some_iff] at h
    obtain ⟨p, _, dcs, _, h⟩ := h
    cases hc : (p.2 == dcs.length && decide (p.1 + p.2 ≤ cells.length)) with
    | false => simp [hc] at h
    | true =>
      rw [hc] at h
      have := fill_length h
      rwa [setRange_length] at this

theorem flatten_get (z : List V) : ∀ (k j : Nat), j < k * z.length → ((List.replicate k z).flatten)[j]? = z[j % z.length]?
  | 0, j, h => by simp at h
  | k + 1, j, h => by
    rw [Nat.succ_mul] at h
    rw [List.replicate_succ, List.flatten_cons]
    by_cases hj : j < z.length
    · rw [List.getElem?_append_left hj, Nat.mod_eq_of_lt hj]
    · rw [List.getElem?_append_right (by omega), flatten_get z k _ (by omega)]
      congr 1
      conv => rhs; rw [show j = (j - z.length) + z.length by omega, Nat.add_mod_right]

theorem flatten_len (z : List V) (k : Nat) : ((List.replicate k z).flatten).length = k * z.length := by simp

theorem pureCell_ok {X : Cx} {d : D} {v : V} {u : Value} (h : pureCell d = some v) (hd : DR X d u) : VR X.w X.S v u := by
  unfold pureCell at h
  split at h <;> simp only [Option.some.injEq, reduceCtorEq] at h <;> subst h <;> simp only [DR] at hd
  · exact hd
  · exact VR_sl.2 hd
  · exact VR_sl.2 ⟨_, hd⟩

theorem pureCells_ok {X : Cx} : ∀ {ds : List D} {vs : List V} {us : Nat → Value}, pureCells ds = some vs → DRs X ds us → vs.length = ds.length ∧ ∀ j v, vs[j]? = some v → VR X.w X.S v (us j)
  | [], vs, us, h, _ => by
    simp only [pureCells, Option.some.injEq] at h
    subst h
    exact ⟨rfl, fun j v hj => by simp at hj⟩
  | d :: ds, vs, us, h, hd => by
    simp only [DRs] at hd
    simp only [pureCells] at h
    split at h
    · rename_i v hv
      split at h
      · rename_i vs' hvs
        simp only [Option.some.injEq] at h
        subst h
        obtain ⟨h1, h2⟩ := pureCells_ok hvs hd.2
        refine ⟨by simp [h1], fun j x hj => ?_⟩
        cases j with
        | zero => simp at hj; subst hj; exact pureCell_ok hv hd.1
        | succ j => exact h2 j x (by simpa using hj)
      · cases h
    · cases h

theorem chunk_length {α : Type} (n : Nat) : ∀ (k : Nat) (l : List α), (chunk n k l).length = k
  | 0, l => rfl
  | k + 1, l => by simp [chunk, chunk_length n k]

theorem chunk_get {α : Type} (n : Nat) : ∀ (k : Nat) (l : List α) (i : Nat) (cs : List α), (chunk n k l)[i]? = some cs → i < k ∧ cs = (l.drop (i * n)).take n
  | 0, l, i, cs, h => by simp [chunk] at h
  | k + 1, l, i, cs, h => by
    cases i with
    | zero => simp [chunk] at h; exact ⟨by omega, by simp [h]⟩
    | succ i =>
      simp only [chunk, List.getElem?_cons_succ] at h
      obtain ⟨h1, h2⟩ := chunk_get n k (l.drop n) i cs h
      refine ⟨by omega, ?_⟩
      rw [h2, List.drop_drop, Nat.succ_mul]
      congr 2
      omega

theorem chunk_cell {α : Type} {n k : Nat} {l : List α} {i j : Nat} {cs : List α} {v : α} (h : (chunk n k l)[i]? = some cs) (hj : cs[j]? = some v) : i < k ∧ j < n ∧ l[i * n + j]? = some v := by
  obtain ⟨h1, rfl⟩ := chunk_get n k l i cs h
  rw [List.getElem?_take] at hj
  split at hj
  · rename_i hjn
    rw [List.getElem?_drop] at hj
    exact ⟨h1, hjn, hj⟩
  · cases hj

theorem chunk_len {α : Type} {n k : Nat} {l : List α} (hl : k * n ≤ l.length) {cs : List α} (h : cs ∈ chunk n k l) : cs.length = n := by
  obtain ⟨i, hi, rfl⟩ := List.mem_iff_getElem.1 h
  obtain ⟨h1, h2⟩ := chunk_get n k l i _ (List.getElem?_eq_getElem hi)
  rw [h2, List.length_take, List.length_drop]
  have := Nat.mul_le_mul_right n (Nat.succ_le_of_lt h1)
  rw [Nat.succ_mul] at this
  omega

/-- The zero cells of k elements, as the model lays them. -/
theorem zeros_ok {w : World} {S : Sup} {u : Value} {z : List V} {k n : Nat} (hn : z.length = n) (h0 : 0 < n) (hs : u.cells.size = z.length) (hz : ∀ j v, z[j]? = some v → VR w S v (u.cells.getD j undef)) :
    ((Array.range (k * n)).map (u.cells[· % u.cells.size]!)).size = k * n ∧
      ∀ j, j < k * n → ((Array.range (k * n)).map (u.cells[· % u.cells.size]!)).getD j undef = u.cells.getD (j % n) undef := by
  refine ⟨by simp, fun j hj => ?_⟩
  have : j % n < u.cells.size := by rw [hs, hn]; exact Nat.mod_lt _ h0
  rw [Array.getD_eq_getD_getElem?, Array.getElem?_map, Array.getElem?_range]
  have e : u.cells[j % n]! = u.cells[j % n] := getElem!_pos u.cells _ this
  simp only [hj, if_true, Option.map_some, Option.getD_some]
  rw [show u.cells.size = n by omega, e, Array.getD_eq_getD_getElem?, Array.getElem?_eq_getElem this]
  rfl

theorem range0 {k : Nat} (h : k = 0) (f g : Nat → Value) : (Array.range k).map f = (Array.range k).map g := by
  apply Array.ext <;> simp [h]

section
variable {P : Program} {o : Oper} {X : Cx} {a : Act} (hX : StoR X)
include hX

theorem sim_buildSlice {t e : TypeId} {len : Nat} {ops : Array (Nat × Operand)} (ho : o.op = .buildSlice t len ops) {ps : List (Nat × D)} (hps : PartsR X a ps ops.toList)
    (ht : P.underlying t = some (.slice e)) {n : Nat} (hn : size? P e = some n) {z : List V} (hz : zero? P e = some z) {d : D} (h : bs n len z ps = some d) :
    Sim P o X a (fun X' u => DR X' d u ∧ X'.τ = X.τ) := by
  unfold bs at h
  by_cases hc : len * n ≤ 2 ^ 24 ∧ 0 < n ∧ z.length = n
  · obtain ⟨hc1, hc2, hc3⟩ := hc
    have hc3' : (z.length == n) = true := by simpa using hc3
    simp only [hc1, hc2, hc3', decide_true, Bool.and_self, cond_true, Option.bind_eq_some_iff] at h
    obtain ⟨cs, h1, h⟩ := h
    obtain ⟨u, z1, z2, z3, z4⟩ := zero_cells (X := X) hz
    obtain ⟨v1, v2⟩ := PartsR.vals hps
    obtain ⟨s1, s2⟩ := zeros_ok (k := len) hc3 hc2 z2 z4
    have hflen : ((List.replicate len z).flatten.map D.v).length = len * n := by rw [List.length_map, flatten_len, hc3]
    have hinit : DRs X ((List.replicate len z).flatten.map D.v) (fun j => ((Array.range (len * n)).map (u.cells[· % u.cells.size]!)).getD j undef) := by
      rw [DRs_v]
      intro j v hj
      have hlt : j < len * n := by
        have := (List.getElem?_eq_some_iff.1 hj).1
        rwa [flatten_len, hc3] at this
      rw [flatten_get z len j (by rw [hc3]; exact hlt), hc3] at hj
      rw [s2 j hlt]
      exact z4 _ v hj
    have hone : OneC (fun j => ((Array.range (len * n)).map (u.cells[· % u.cells.size]!)).getD j undef) ((Array.range (len * n)).map (u.cells[· % u.cells.size]!)).size := fun j hj => by
      rw [s1] at hj
      show (Array.getD _ j undef).oneCell' = true
      rw [s2 j hj]
      exact z3 _ (by rw [z2, hc3]; exact Nat.mod_lt _ hc2)
    have hf := fillParts_fill h1
    obtain ⟨c', g1, g2, g3, g4⟩ := fill_ok v1 v2 (by rw [s1, hflen]) hone hinit hf
    have hcl : cs.length = len * n := by rw [fill_length hf, hflen]
    have hrun : (execOp a.eval o).run P X.w = .ok (.value (.slice (some (at_ X.w.heap.size 0)) len len)) (X.w.alloc (.cells c' e)) := by
      simp only [execOp, ho, Instr.buildSlice, Sem.run_bind, run_under X.w ht, Result.andThen_ok, run_size X.w hn]
      rw [if_neg (by omega)]
      simp only [Sem.run_bind, Sem.run_pure, Result.andThen_ok]
      by_cases h0 : len * n = 0
      · rw [if_pos h0]
        simp only [Sem.run_bind, Sem.run_pure, Result.andThen_ok]
        rw [range0 h0 _ (fun x => u.cells[x % u.cells.size]!), g1]
        simp [newRow]
      · rw [if_neg h0]
        simp only [Sem.run_bind, Sem.run_pure, Result.andThen_ok, z1]
        rw [g1]
        simp [newRow]
    have hfr := Fresh.alloc X.w (.cells c' e)
    have cell : ∀ j, j < len * n → (X.w.alloc (.cells c' e)).cell? (at_ X.w.heap.size j) = some (c'.getD j undef) := fun j hj => by
      rw [cell_of_row _ _ _ _ _ _ hfr.new]
      simp [Array.getD_eq_getD_getElem?, show j < c'.size by omega]
    split at h
    · rename_i vs hvs
      simp only [Option.some.injEq] at h
      subst h
      obtain ⟨p1, p2⟩ := pureCells_ok hvs g4
      have he : Ext X (X.lay (X.w.alloc (.cells c' e)) true (len * n)) := lay_ext hfr _
      refine Sim.value (X' := X.lay (X.w.alloc (.cells c' e)) true (len * n)) hrun he (lay_sto hX hfr (by omega)) ⟨?_, rfl⟩
      simp only [DR]
      refine ⟨some (at_ X.w.heap.size 0), X.w.heap.size, 0, fun i j => c'.getD (i * n + j) undef, by rw [chunk_length], fun _ => rfl, fun cs' hcs' => chunk_len (by omega) hcs', Nat.le_refl _, fun i hi j hj => ?_, fun i cs' hi j v hj => ?_⟩
      · rw [chunk_length] at hi
        have := index_lt hi hj
        rw [Nat.zero_add]
        exact ⟨.inr ⟨rfl, rfl, this⟩, cell _ this⟩
      · obtain ⟨q1, q2, q3⟩ := chunk_cell hi hj
        exact (p2 _ v q3).mono he.S (he.cellS hX)
    · simp only [Option.some.injEq] at h
      subst h
      have he : Ext X (X.lay (X.w.alloc (.cells c' e)) false (len * n)) := lay_ext hfr _
      refine Sim.value (X' := X.lay (X.w.alloc (.cells c' e)) false (len * n)) hrun he (lay_sto hX hfr (by omega)) ⟨?_, rfl⟩
      simp only [DR]
      refine ⟨len, X.w.heap.size, 0, fun j => c'.getD j undef, rfl, hc2, hcl, fun j hj => ?_, fun j hj => g3 j (by omega), DRs.ext hX he g4⟩
      rw [Nat.zero_add]
      exact ⟨.inr ⟨rfl, by omega⟩, cell j (by omega)⟩
  · exfalso
    rcases Decidable.not_and_iff_not_or_not.1 hc with hc | hc
    · simp [show ¬ len * n ≤ 16777216 by simpa using hc] at h
    · rcases Decidable.not_and_iff_not_or_not.1 hc with hc | hc
      · simp [show n = 0 by omega] at h
      · have hm' : (z.length == n) = false := by simpa using hc
        simp [hm'] at h

theorem sim_makeSlice {σ σ' : Sto} {t e : TypeId} {x y : Operand} (ho : o.op = .makeSlice t x y) {dx dy : D} (hx : DR X dx (a.eval x)) (hy : DR X dy (a.eval y))
    (ht : P.underlying t = some (.slice e)) {n b : Nat} (hn : size? P e = some n) (hb : bytes? P e = some b) {z : List V} (hz : zero? P e = some z) (hq : X.τ σ.length = none) {d : D} (h : ms n b z dx dy σ = some (d, σ')) :
    ∃ row, σ' = σ ++ [row] ∧ Sim P o X a (fun X' u => DR X' d u ∧ X'.τ = upd1 X.τ σ.length (some row)) := by
  simp only [ms, Option.bind_eq_some_iff] at h
  obtain ⟨l, hl, c, hc, h⟩ := h
  obtain ⟨ik, hik⟩ := natOf_DR hx hl
  obtain ⟨jk, hjk⟩ := natOf_DR hy hc
  by_cases hcc : 0 < n ∧ z.length = n ∧ room b c = true ∧ l ≤ c
  · obtain ⟨h1, h2, h3, h4⟩ := hcc
    have h2' : (z.length == n) = true := by simpa using h2
    simp [h1, h2', h3, h4] at h
    obtain ⟨rfl, rfl⟩ := h
    refine ⟨_, rfl, ?_⟩
    obtain ⟨u, z1, z2, z3, z4⟩ := zero_cells (X := X) hz
    obtain ⟨s1, s2⟩ := zeros_ok (k := c) h2 h1 z2 z4
    simp only [room, Bool.and_eq_true, decide_eq_true_eq] at h3
    obtain ⟨r1, r2⟩ := h3
    have hfr := Fresh.alloc X.w (.cells ((Array.range (c * n)).map (u.cells[· % u.cells.size]!)) e)
    have hrun : (execOp a.eval o).run P X.w = .ok (.value (.slice (some (at_ X.w.heap.size 0)) l c)) (X.w.alloc (.cells ((Array.range (c * n)).map (u.cells[· % u.cells.size]!)) e)) := by
      simp only [bytes?, Option.bind_eq_some_iff, Option.some.injEq] at hb
      obtain ⟨i, hi, rfl⟩ := hb
      have wl : IntKind.i64.wrap (l : Int) = l := by simp [IntKind.wrap, IntKind.bits, IntKind.signed]; omega
      have wc : IntKind.i64.wrap (c : Int) = c := by simp [IntKind.wrap, IntKind.bits, IntKind.signed]; omega
      have tl : ((decide ((c : Int) < 0) || decide ((i.bytes : Int) * (c : Int) > 2 ^ 48)) || decide ((l : Int) < 0) || decide ((l : Int) > (c : Int))) = false := by
        have : ((i.bytes : Int) * (c : Int)) = ((c * i.bytes : Nat) : Int) := by rw [Nat.mul_comm]; simp
        rw [this]
        simp only [Bool.or_eq_false_iff, decide_eq_false_iff_not]
        refine ⟨⟨⟨by omega, ?_⟩, by omega⟩, by omega⟩
        have : (2 : Int) ^ 48 = 281474976710656 := by decide
        rw [this]
        have r1' : c * i.bytes ≤ 70368744177664 := by simpa using r1
        omega
      simp only [execOp, ho, hik, hjk, Instr.makeSlice, Sem.run_bind, run_under X.w ht, Result.andThen_ok, asInt, asIntOf, Sem.run_pure, typeInfo, run_program, hi, wl, wc]
      rw [tl]
      simp only [Bool.false_eq_true, if_false, Sem.run_bind, Sem.run_pure, Result.andThen_ok, run_askRoom, run_size X.w hn, Int.toNat_natCast]
      by_cases h0 : c * n = 0
      · rw [if_pos h0]
        simp only [Sem.run_bind, Sem.run_pure, Result.andThen_ok]
        rw [range0 h0 _ (fun x => u.cells[x % u.cells.size]!)]
        simp [newRow]
      · rw [if_neg h0]
        simp only [Sem.run_bind, Sem.run_pure, Result.andThen_ok, z1]
        simp [newRow]
    let lc : Loc := ⟨X.w.heap.size, 0, c⟩
    have he : Ext X (X.add (X.w.alloc (.cells ((Array.range (c * n)).map (u.cells[· % u.cells.size]!)) e)) σ.length (.arr n 0 (List.replicate l z)) lc) := add_ext hfr hq rfl
    have hL : (X.add (X.w.alloc (.cells ((Array.range (c * n)).map (u.cells[· % u.cells.size]!)) e)) σ.length (.arr n 0 (List.replicate l z)) lc).L σ.length = lc := upd1_same _ _ _
    refine Sim.value hrun he (add_sto hX hfr hq rfl ⟨h1, ?_, ?_, ?_⟩) ⟨?_, rfl⟩
    · intro cs hcs
      rw [(List.mem_replicate.1 hcs).2, h2]
    · rw [hL]; simpa using h4
    · rw [hL]
      intro _
      refine ⟨_, e, hfr.new, ?_, fun i cs hi j v hj => ?_⟩
      · show 0 + c * n ≤ _
        rw [s1]; omega
      · have hi' : i < l := by simpa using (List.getElem?_eq_some_iff.1 hi).1
        have hcs : cs = z := by
          have := List.mem_of_getElem? hi
          exact (List.mem_replicate.1 this).2
        subst hcs
        have hj' : j < n := by rw [← h2]; exact (List.getElem?_eq_some_iff.1 hj).1
        show VR _ _ v (Array.getD _ (0 + i * n + j) undef)
        have hlt := index_lt (show i < c by omega) hj'
        rw [Nat.zero_add, s2 _ hlt, Nat.mul_comm i n, Nat.mul_add_mod, Nat.mod_eq_of_lt hj']
        exact (z4 j v hj).mono he.S (he.cellS hX)
    · simp only [DR]
      refine ⟨_, _, rfl, h4, fun _ => ⟨_, _, rfl⟩, n, 0, List.replicate l z, .inl (upd1_same _ _ _), Nat.le_refl _, fun _ => ⟨rfl, by simp, ?_, fun _ => ?_⟩⟩
      · rw [hL]; show 0 + c = c; omega
      · rw [hL]; show some (at_ X.w.heap.size 0) = some (at_ X.w.heap.size (0 + 0 * n)); simp
  · exfalso
    rcases Decidable.not_and_iff_not_or_not.1 hcc with hc | hc
    · simp [show n = 0 by omega] at h
    · rcases Decidable.not_and_iff_not_or_not.1 hc with hc | hc
      · have hm' : (z.length == n) = false := by simpa using hc
        simp [hm'] at h
      · rcases Decidable.not_and_iff_not_or_not.1 hc with hc | hc
        · simp [show room b c = false by simpa using hc] at h
        · simp [hc] at h

theorem sim_lenOf {k : Call} (ho : o.op = .call k) {x : Operand} {t : TypeId} (hk : k = { callee := .builtin .len, args := #[x], argTypes := #[t] }) {n : Int}
    (hr : (Builtin.len_ #[t] o.type #[a.eval x]).run P X.w = .ok (goInt n) X.w) : Sim P o X a (fun X' u => DR X' (.v (.int .i64 n)) u ∧ X'.τ = X.τ) := by
  refine Sim.value (X' := X) (u := goInt n) ?_ (Ext.refl X) hX ⟨by simp only [DR]; exact .int _ _, rfl⟩
  subst hk
  simp [execOp, ho, resolve, invoke, Go.builtin, hr]

theorem sim_lenSl {k : Call} (ho : o.op = .call k) {x : Operand} {t e : TypeId} (hk : k = { callee := .builtin .len, args := #[x], argTypes := #[t] }) {dx d : D} (hx : DR X dx (a.eval x))
    (ht : P.underlying t = some (.slice e)) (h : lenSl dx = some d) : Sim P o X a (fun X' u => DR X' d u ∧ X'.τ = X.τ) := by
  have key : ∃ n : Nat, d = .v (.int .i64 n) ∧ (Builtin.len_ #[t] o.type #[a.eval x]).run P X.w = .ok (goInt n) X.w := by
    unfold lenSl at h
    split at h
    · simp only [Option.some.injEq] at h
      simp only [DR] at hx
      generalize a.eval x = ux at hx
      cases hx
      exact ⟨0, h.symm, by simp [Builtin.len_, run_under X.w ht]⟩
    · rename_i tg n xs
      simp only [Option.some.injEq] at h
      have : ∃ ad c, a.eval x = .slice ad xs.length c := by
        cases tg <;> simp only [DR] at hx
        · obtain ⟨c, ad, _, _, _, h1, _⟩ := hx; exact ⟨ad, c, h1⟩
        · obtain ⟨c, ad, _, _, _, h1, _⟩ := hx; exact ⟨ad, c, h1⟩
        · obtain ⟨ad, _, _, _, h1, _⟩ := hx; exact ⟨ad, _, h1⟩
      obtain ⟨ad, c, h1⟩ := this
      exact ⟨_, h.symm, by simp [Builtin.len_, run_under X.w ht, h1]⟩
    · rename_i n cs
      simp only [Option.some.injEq] at h
      simp only [DR] at hx
      obtain ⟨k, b, o', us, h1, h2, h3, _⟩ := hx
      refine ⟨k, ?_, by simp [Builtin.len_, run_under X.w ht, h1]⟩
      rw [← h, h3, Nat.mul_div_cancel _ h2]
    · simp only [Option.some.injEq] at h
      simp only [DR] at hx
      obtain ⟨ad, c, h1, _⟩ := hx
      exact ⟨_, h.symm, by simp [Builtin.len_, run_under X.w ht, h1]⟩
    · cases h
  obtain ⟨n, rfl, hr⟩ := key
  exact sim_lenOf hX ho hk hr

theorem sim_capSl {k : Call} (ho : o.op = .call k) {x : Operand} {t e : TypeId} (hk : k = { callee := .builtin .cap, args := #[x], argTypes := #[t] }) {dx d : D} (hx : DR X dx (a.eval x))
    (ht : P.underlying t = some (.slice e)) (h : capSl dx = some d) : Sim P o X a (fun X' u => DR X' d u ∧ X'.τ = X.τ) := by
  have key : ∃ n : Nat, d = .v (.int .i64 n) ∧ (Builtin.cap_ #[t] o.type #[a.eval x]).run P X.w = .ok (goInt n) X.w := by
    unfold capSl at h
    split at h
    · simp only [Option.some.injEq] at h
      simp only [DR] at hx
      generalize a.eval x = ux at hx
      cases hx
      exact ⟨0, h.symm, by simp [Builtin.cap_, run_under X.w ht]⟩
    · rename_i n xs
      simp only [Option.some.injEq] at h
      simp only [DR] at hx
      obtain ⟨ad, _, _, _, h1, _⟩ := hx
      exact ⟨_, h.symm, by simp [Builtin.cap_, run_under X.w ht, h1]⟩
    · cases h
  obtain ⟨n, rfl, hr⟩ := key
  refine Sim.value (X' := X) (u := goInt n) ?_ (Ext.refl X) hX ⟨by simp only [DR]; exact .int _ _, rfl⟩
  subst hk
  simp [execOp, ho, resolve, invoke, Go.builtin, hr]

theorem sim_lenStr {k : Call} (ho : o.op = .call k) {x : Operand} {t : TypeId} (hk : k = { callee := .builtin .len, args := #[x], argTypes := #[t] }) {dx d : D} (hx : DR X dx (a.eval x))
    (ht : P.underlying t = some .string) (h : lenStr dx = some d) : Sim P o X a (fun X' u => DR X' d u ∧ X'.τ = X.τ) := by
  unfold lenStr at h
  split at h
  · simp only [Option.some.injEq] at h
    subst h
    simp only [DR] at hx
    generalize hu : a.eval x = ux at hx
    cases hx
    exact sim_lenOf hX ho hk (by simp [Builtin.len_, run_under X.w ht, hu])
  · cases h

theorem sim_lenMap {σ : Sto} {k : Call} (ho : o.op = .call k) {x : Operand} {t kt e : TypeId} (hk : k = { callee := .builtin .len, args := #[x], argTypes := #[t] }) {dx d : D} (hx : DR X dx (a.eval x))
    (ht : P.underlying t = some (.map kt e)) (hτ : ∀ q ∈ rowsOf dx, X.τ q = σ[q]?) (h : lenMap dx σ = some d) : Sim P o X a (fun X' u => DR X' d u ∧ X'.τ = X.τ) := by
  unfold lenMap at h
  split at h
  · simp only [Option.some.injEq] at h
    subst h
    simp only [DR] at hx
    generalize hu : a.eval x = ux at hx
    cases hx
    exact sim_lenOf hX ho hk (by simp [Builtin.len_, run_under X.w ht, hu])
  · rename_i r
    split at h
    · rename_i ka va es hσ
      simp only [Option.some.injEq] at h
      subst h
      simp only [DR] at hx
      have hr := hτ r (by simp [rowsOf])
      obtain ⟨row, hσ1, hσ2⟩ := mapAt hσ
      rw [hσ1] at hr
      obtain ⟨ents, h1, h2, h3⟩ := (hX.rows r _ hr).maps hσ2
      exact sim_lenOf hX ho hk (by simp [Builtin.len_, run_under X.w ht, hx.1, getObj, Sem.run, h1, h2])
    · cases h
  · cases h
end

end Go.Ab

/- Operations, seventh part: append, copy, clear. -/
namespace Go.Ab
open Go
variable [Globs]

/-- What an appended or copied value gives: n elements of m cells. -/
structure SrcR (P : Program) (w : World) (S : Sup) (m : Nat) (u : Value) (ys : List (List V)) : Prop where
  all : ∀ cs ∈ ys, cs.length = m
  len : ∀ w' : World, (Builtin.lenOf u).run P w' = .ok ys.length w'
  first : ∀ w' : World, w'.heap = w.heap → ∀ k, k ≤ ys.length → ∃ news : Array Value, (Builtin.firstCells m k u).run P w' = .ok news w' ∧ news.size = k * m ∧
    ∀ i cs, ys[i]? = some cs → i < k → ∀ j v, cs[j]? = some v → VR w S v (news.getD (i * m + j) undef)

theorem cell_heap {w w' : World} (h : w'.heap = w.heap) (a : Addr) : w'.cell? a = w.cell? a := by simp [World.cell?, h]

theorem src_of_cells {P : Program} {w : World} {T S : Sup} {m c : Nat} {xs : List (List V)} {u : Value} (h : SlR w T S m xs c u) : SrcR P w S m u xs := by
  obtain ⟨a, b, o, us, rfl, h2, h3, h4, h5, h6⟩ := h
  refine ⟨h3, fun w' => by simp [Builtin.lenOf], fun w' hw k hk => ?_⟩
  rcases Nat.eq_zero_or_pos k with rfl | hk0
  · refine ⟨#[], ?_, by simp, fun i cs _ hi => by omega⟩
    cases a <;> simp [Builtin.firstCells, Go.loadCells, Go.loadCellsFrom]
  · have ha := h2 (by omega)
    subst ha
    have hl := run_loadCells (P := P) w' (at_ b o) (k * m) (fun j => us (j / m) (j % m)) (fun j hj => by
      rcases Nat.eq_zero_or_pos m with rfl | hm
      · simp at hj
      · obtain ⟨i, j', hi, hj', rfl⟩ := split_index hm hj
        rw [add_at, cell_heap hw]
        have e1 : (i * m + j') / m = i := by rw [Nat.mul_comm, Nat.mul_add_div hm, Nat.div_eq_of_lt hj', Nat.add_zero]
        have e2 : (i * m + j') % m = j' := by rw [Nat.mul_comm, Nat.mul_add_mod, Nat.mod_eq_of_lt hj']
        rw [e1, e2, ← Nat.add_assoc]
        exact (h5 i (by omega) j' hj').2)
    refine ⟨_, by simp only [Builtin.firstCells]; exact hl, by simp, fun i cs hi hik j v hj => ?_⟩
    have hj' : j < m := by rw [← h3 cs (List.mem_of_getElem? hi)]; exact (List.getElem?_eq_some_iff.1 hj).1
    rw [range_map_getD _ _ _ (index_lt hik hj')]
    have e1 : (i * m + j) / m = i := by rw [Nat.mul_comm, Nat.mul_add_div (by omega), Nat.div_eq_of_lt hj', Nat.add_zero]
    have e2 : (i * m + j) % m = j := by rw [Nat.mul_comm, Nat.mul_add_mod, Nat.mod_eq_of_lt hj']
    show VR w S v (us ((i * m + j) / m) ((i * m + j) % m))
    rw [e1, e2]
    exact h6 i cs hi j v hj

theorem src_nils {P : Program} {w : World} {S : Sup} {m : Nat} (a : Option Addr) : SrcR P w S m (.slice a 0 0) [] :=
  ⟨fun cs h => by simp at h, fun w' => by simp [Builtin.lenOf], fun w' _ k hk => by
    have : k = 0 := by simpa using hk
    subst this
    refine ⟨#[], ?_, by simp, fun i cs _ hi => by omega⟩
    cases a <;> simp [Builtin.firstCells, Go.loadCells, Go.loadCellsFrom]⟩

theorem src_str {P : Program} {w : World} {S : Sup} (s : ByteArray) : SrcR P w S 1 (.string s) (s.toList.map fun b => [V.int .u8 b.toNat]) := by
  have hl : (s.toList.map fun b => [V.int .u8 b.toNat]).length = s.size := by rw [List.length_map, Lib.toList_data]; simp
  refine ⟨fun cs h => ?_, fun w' => by simp only [Builtin.lenOf, hl]; rfl, fun w' _ k hk => ⟨_, rfl, ?_, fun i cs hi hik j v hj => ?_⟩⟩
  · obtain ⟨b, _, rfl⟩ := List.mem_map.1 h; rfl
  · rw [hl] at hk
    simp
    have : s.data.size = s.size := rfl
    omega
  · simp only [List.getElem?_map, Option.map_eq_some_iff] at hi
    obtain ⟨b, hb, rfl⟩ := hi
    cases j with
    | succ j => simp at hj
    | zero =>
      simp at hj
      subst hj
      rw [Lib.toList_data] at hb
      have hb' : s.data[i]? = some b := by simpa using hb
      have : ((s.extract 0 k).data.map fun b => Value.int IntKind.u8 b.toNat).getD (i * 1 + 0) undef = .int .u8 b.toNat := by
        rw [Array.getD_eq_getD_getElem?, Array.getElem?_map]
        have : (s.extract 0 k).data[i * 1 + 0]? = some b := by
          rw [ByteArray.data_extract, Array.getElem?_extract]
          rw [hl] at hk
          have hi' : i < s.data.size := (Array.getElem?_eq_some_iff.1 hb').1
          rw [if_pos (by omega), ← hb']
          congr 1
          omega
        rw [this]
        rfl
      rw [this]
      exact .int _ _

theorem elems_ok {P : Program} {X : Cx} (hX : StoR X) {σ : Sto} {m : Nat} {d : D} {ys : List (List V)} {u : Value} (hd : DR X d u) (hτ : ∀ q ∈ refsD d, X.τ q = σ[q]?) (h : elems m σ d = some ys) :
    SrcR P X.w X.S m u ys := by
  unfold elems at h
  split at h
  · simp only [Option.some.injEq] at h
    subst h
    simp only [DR] at hd
    cases hd
    exact src_nils _
  · rename_i t n xs
    by_cases hn : n = m
    · subst hn
      simp at h
      subst h
      cases t <;> simp only [DR] at hd
      · obtain ⟨c, hd⟩ := hd; exact src_of_cells hd
      · obtain ⟨c, hd⟩ := hd; exact src_of_cells hd
      · exact src_of_cells hd
    · have hn' : (n == m) = false := by simpa using hn
      simp [hn'] at h
  · rename_i r g n off len
    by_cases hn : n = m
    · subst hn
      simp only [beq_self_eq_true, cond_true, Option.bind_eq_some_iff, Option.some.injEq] at h
      obtain ⟨xs, hxs, rfl⟩ := h
      obtain ⟨n', hσ⟩ := rowAt_ok hxs
      rw [← hτ r (by simp [refsD])] at hσ
      simp only [DR] at hd
      obtain ⟨a, c, rfl, h2, h3, h4⟩ := hd
      obtain ⟨rfl, h5, h6, h7⟩ := h4.now hσ
      rcases hσ with hσ | hσ
      · obtain ⟨g0, g1, g2, g3⟩ := hX.rows r _ hσ
        have hwl := window_length h5
        have key : SlR X.w (fun b o => True) X.S n' (window xs off len) c (.slice a len c) := by
          rcases Nat.eq_zero_or_pos len with h0 | h0
          · refine ⟨a, 0, 0, fun _ _ => undef, by rw [hwl], fun h => by omega, fun cs hcs => g1 cs (window_mem hcs), by omega, fun i hi => by omega, fun i cs hi => ?_⟩
            have := (window_get hi).1
            omega
          · obtain ⟨cc, e, g4, g5, g6⟩ := g3 (by omega)
            refine ⟨a, (X.L r).block, (X.L r).off + off * n', fun i j => cc.getD ((X.L r).off + (off + i) * n' + j) undef, by rw [hwl], fun h => h7 (by omega), fun cs hcs => g1 cs (window_mem hcs), by omega, fun i hi j hj => ⟨trivial, ?_⟩, fun i cs hi j v hj => g6 _ cs (window_get hi).2 j v hj⟩
            rw [cell_of_row _ _ _ _ _ _ g4]
            have hlt := index_lt (show off + i < (X.L r).cap by omega) hj
            have e2 : (X.L r).off + off * n' + i * n' + j = (X.L r).off + (off + i) * n' + j := by rw [Nat.add_mul]; omega
            rw [e2]
            simp [Array.getD_eq_getD_getElem?, show (X.L r).off + (off + i) * n' + j < cc.size by omega]
        exact src_of_cells key
      · exact src_of_cells (frz_SlR hX hσ h5 h2 h7)
    · have hn' : (n == m) = false := by simpa using hn
      simp [hn'] at h
  · rename_i s
    by_cases hm : m = 1
    · subst hm
      simp at h
      subst h
      simp only [DR] at hd
      cases hd
      exact src_str s
    · have hm' : (m == 1) = false := by simpa using hm
      simp [hm'] at h
  · cases h

/-! ### A string of bytes -/
theorem bytesOf_ok : ∀ {xs : List (List V)} {l : List UInt8}, bytesOf xs = some l → ∃ ns : List Int, xs = ns.map (fun n => [V.int .u8 n]) ∧ l = ns.map (fun n => UInt8.ofNat n.toNat)
  | [], l, h => by
    simp only [bytesOf, Option.some.injEq] at h
    exact ⟨[], rfl, h.symm⟩
  | x :: xs, l, h => by
    unfold bytesOf at h
    split at h
    · rename_i heq; cases heq
    · rename_i n ys heq
      cases heq
      simp only [Option.bind_eq_some_iff, Option.some.injEq] at h
      obtain ⟨l', h1, rfl⟩ := h
      obtain ⟨ns, e1, e2⟩ := bytesOf_ok h1
      exact ⟨n :: ns, by rw [e1]; rfl, by rw [e2]; rfl⟩
    · cases h

theorem foldl_bytes : ∀ (ns : List Int) (r : ByteArray), ns.foldl (fun r n => r.push (UInt8.ofNat n.toNat)) r = ⟨r.data ++ (ns.map fun n => UInt8.ofNat n.toNat).toArray⟩
  | [], r => by simp
  | n :: ns, r => by
    simp only [List.foldl_cons]
    rw [foldl_bytes ns]
    simp [ByteArray.push]

theorem sim_cvS {P : Program} {o : Oper} {X : Cx} {a : Act} (hX : StoR X) {σ : Sto} {s t e : TypeId} {x : Operand} (ho : o.op = .convert s t x) {dx d : D} (hx : DR X dx (a.eval x)) (hf : ∀ q ∈ refsD dx, X.τ q = σ[q]?)
    (hs : P.underlying s = some (.slice e)) (he : P.underlying e = some (.int .u8)) (ht : P.underlying t = some .string) (h : cvS dx σ = some d) : Sim P o X a (fun X' u => DR X' d u ∧ X'.τ = X.τ) := by
  unfold cvS at h
  split at h
  · cases h
  rename_i hns
  simp only [Option.bind_eq_some_iff, Option.some.injEq] at h
  obtain ⟨xs, h1, l, h2, rfl⟩ := h
  have hsl : ∃ a' l c, a.eval x = .slice a' l c := by
    unfold elems at h1
    split at h1
    · simp only [DR] at hx
      generalize hu : a.eval x = u at hx
      cases hx
      exact ⟨_, _, _, rfl⟩
    · rename_i t n xs
      cases t <;> simp only [DR] at hx
      · obtain ⟨c, a', b, o, us, e, _⟩ := hx; exact ⟨_, _, _, e⟩
      · obtain ⟨c, a', b, o, us, e, _⟩ := hx; exact ⟨_, _, _, e⟩
      · obtain ⟨a', b, o, us, e, _⟩ := hx; exact ⟨_, _, _, e⟩
    · simp only [DR] at hx
      obtain ⟨a', c, e, _⟩ := hx
      exact ⟨_, _, _, e⟩
    · exact (hns _ rfl).elim
    · cases h1
  have hsrc := elems_ok (P := P) hX hx hf h1
  obtain ⟨ns, rfl, rfl⟩ := bytesOf_ok h2
  obtain ⟨ad, len, c, hsl⟩ := hsl
  have hlen : len = ns.length := by
    have := hsrc.len X.w
    rw [hsl] at this
    simp [Builtin.lenOf] at this
    exact this
  subst hlen
  refine Sim.value (X' := X) (u := .string ⟨(ns.map fun n => UInt8.ofNat n.toNat).toArray⟩) ?_ (Ext.refl X) hX ⟨by simp only [DR]; exact .str _, rfl⟩
  have hrun : (Conv.bytesToString (.slice ad ns.length c)).run P X.w = .ok (.string ⟨(ns.map fun n => UInt8.ofNat n.toNat).toArray⟩) X.w := by
    cases ad with
    | none =>
      obtain ⟨news, k1, k2, _⟩ := hsrc.first X.w rfl ns.length (by simp)
      rw [hsl] at k1
      have : ns = [] := by
        rcases Nat.eq_zero_or_pos ns.length with h0 | h0
        · exact List.length_eq_zero_iff.1 h0
        · exfalso
          simp [Builtin.firstCells] at k1
          subst k1
          simp at k2
          omega
      subst this
      simp [Conv.bytesToString]
      rfl
    | some ad =>
      obtain ⟨news, k1, k2, k3⟩ := hsrc.first X.w rfl ns.length (by simp)
      rw [hsl] at k1
      simp only [Builtin.firstCells, Nat.mul_one] at k1
      have hn : news = (ns.map (Value.int .u8)).toArray := by
        apply Array.ext_getElem?
        intro i
        rcases Nat.lt_or_ge i ns.length with hi | hi
        · have := k3 i [V.int .u8 ns[i]] (by simp [List.getElem?_eq_getElem hi]) hi 0 (V.int .u8 ns[i]) rfl
          have hi2 : i < news.size := by omega
          generalize hv : news.getD (i * 1 + 0) undef = v at this
          cases this
          simp only [Nat.mul_one, Nat.add_zero, Array.getD_eq_getD_getElem?, Array.getElem?_eq_getElem hi2, Option.getD_some] at hv
          rw [Array.getElem?_eq_getElem hi2, hv]
          simp [List.getElem?_eq_getElem hi]
        · rw [Array.getElem?_eq_none (by omega)]
          simp [List.getElem?_eq_none hi]
      rw [hn] at k1
      rw [run_bytesToString X.w ad ns.length c ns k1, foldl_bytes]
      simp
  simp [execOp, ho, hsl, run_convert_bytes_string X.w s t e ad ns.length c hs he ht, hrun]


theorem elemsW_ok {P : Program} {X : Cx} (hX : StoR X) {σ σ' : Sto} {m : Nat} {d : D} {ys : List (List V)} {u : Value} (hd : DR X d u) (hτ : ∀ q ∈ refsD d, X.τ q = σ[q]?) (h : elemsW m σ d = some (ys, σ')) :
    ∃ X', Froze X X' σ σ' (refsD d) ∧ SrcR P X'.w X'.S m u ys := by
  unfold elemsW at h
  split at h
  · rename_i n cs
    by_cases hn : n = m
    · subst hn
      simp only [beq_self_eq_true, cond_true, Option.bind_eq_some_iff, Option.some.injEq, Prod.mk.injEq] at h
      obtain ⟨⟨vs, σ1⟩, h1, rfl, rfl⟩ := h
      simp only [DR] at hd
      obtain ⟨k, b, o, us, rfl, h2, h3, h4, h4', h5⟩ := hd
      obtain ⟨X', f, hl, hv⟩ := toVs_ok cs hX h5 (fun q hq => hτ q (by simpa [refsD] using hq)) h1
      have hk : vs.length / n = k := by rw [hl, h3, Nat.mul_div_cancel _ h2]
      refine ⟨X', by simpa [refsD] using f, ?_⟩
      simp only [hk]
      refine src_of_cells (T := X'.T) (c := k) ⟨some (at_ b o), b, o, fun i j => us (i * n + j), by rw [chunk_length], fun _ => rfl, fun cs' hcs' => chunk_len (by omega) hcs', by rw [chunk_length]; omega, fun i hi j hj => ?_, fun i cs' hi j v hj => ?_⟩
      · rw [chunk_length] at hi
        have hlt := index_lt hi hj
        have := h4 (i * n + j) (by omega)
        rw [Nat.add_assoc, f.w]
        exact ⟨f.ext.T _ _ this.1, this.2⟩
      · obtain ⟨q1, q2, q3⟩ := chunk_cell hi hj
        exact hv _ v q3
    · have hn' : (n == m) = false := by simpa using hn
      simp [hn'] at h
  · simp only [Option.bind_eq_some_iff, Option.some.injEq, Prod.mk.injEq] at h
    obtain ⟨xs, h1, rfl, rfl⟩ := h
    exact ⟨X, Froze.refl hX hτ, elems_ok hX hd hτ h1⟩

end Go.Ab

/- Operations, eighth part: append. -/
namespace Go.Ab
open Go
variable [Globs]

section runs
variable {P : Program} {t t2 ty e : TypeId} {m b : Nat} {z : Value} {d2 : TypeDesc} {base : Option Addr} {sLen sCap n : Nat} {ux : Value} {news : Array Value} {w w' : World}
  (ht : P.underlying t = some (.slice e)) (hm : size? P e = some m)

theorem run_app_in (ht : P.underlying t = some (.slice e)) (hm : size? P e = some m) (ht2 : P.underlying t2 = some d2) (hd2 : ∀ k, d2 ≠ .int k) (hlen : (Builtin.lenOf ux).run P w = .ok n w) (hc : sLen + n ≤ sCap)
    (hf : (Builtin.firstCells m n ux).run P w = .ok news w) (hst : match base with | some ad => (Go.storeCells (ad.add (sLen * m)) news.toList).run P w = .ok () w' | none => w' = w) :
    (Builtin.append_ #[t, t2] ty #[.slice base sLen sCap, ux]).run P w = .ok (.slice base (sLen + n) sCap) w' := by
  have hz : (match d2 with | .int _ => true | _ => false) = false := by
    cases d2 <;> first | rfl | exact absurd rfl (hd2 _)
  cases base with
  | none =>
    subst hst
    simp [Builtin.append_, run_under _ ht, run_size _ hm, run_under _ ht2, hz, hlen, hc, hf]
  | some ad => simp [Builtin.append_, run_under _ ht, run_size _ hm, run_under _ ht2, hz, hlen, hc, hf, hst]

theorem run_app_grow (ht : P.underlying t = some (.slice e)) (hm : size? P e = some m) (hb : bytes? P e = some b) (hzv : ∀ w, (zeroValue e).run P w = .ok z w) (ht2 : P.underlying t2 = some d2) (hd2 : ∀ k, d2 ≠ .int k)
    (hlen : ∀ w, (Builtin.lenOf ux).run P w = .ok n w) (hc : sCap < sLen + n) (hroom : (sLen + n) * b ≤ 2 ^ 46) (hroom2 : sLen + n ≤ 2 ^ 46) {olds : Array Value}
    (hf : (Builtin.firstCells m n ux).run P w.drew = .ok news w.drew) (ho : (Builtin.firstCells m sLen (.slice base sLen sCap)).run P w.drew = .ok olds w.drew) :
    (Builtin.append_ #[t, t2] ty #[.slice base sLen sCap, ux]).run P w = .ok (.slice (some ⟨w.heap.size, 0, none⟩) (sLen + n) (grownCap w (sLen + n) sCap e))
      (w.drew.alloc (.cells (olds ++ news ++ Builtin.zeroCells z.cells (grownCap w (sLen + n) sCap e - (sLen + n))) e)) := by
  have hz : (match d2 with | .int _ => true | _ => false) = false := by
    cases d2 <;> first | rfl | exact absurd rfl (hd2 _)
  have hn : ¬ (sLen + n ≤ sCap) := by omega
  simp only [bytes?, Option.bind_eq_some_iff, Option.some.injEq] at hb
  obtain ⟨i, hi, rfl⟩ := hb
  have h48 : Builtin.nextslicecap (sLen + n) sCap * i.bytes ≤ 281474976710656 := growslice_fits hc (by
    have : (2 : Nat) ^ 46 = 70368744177664 := by decide
    omega)
  have h48' : ¬ (281474976710656 < Builtin.nextslicecap (sLen + n) sCap * i.bytes) := by omega
  have h63' : ¬ (9223372036854775807 < ((sLen : Int) + (n : Int))) := by
    have : (2 : Nat) ^ 46 = 70368744177664 := by decide
    omega
  simp [Builtin.append_, run_under _ ht, run_size _ hm, run_under _ ht2, hz, hlen, hn, h63', h48', typeInfo, hi, Question.forced, hf, ho, hzv, newRow, grownCap]

theorem run_appZ_in (ht : P.underlying t = some (.slice e)) (hm : size? P e = some m) (hb : bytes? P e = some b) (hzv : ∀ w, (zeroValue e).run P w = .ok z w) {ik jk : IntKind} (ht2 : P.underlying t2 = some (.int ik)) (hc : sLen + n ≤ sCap) (hroom : n * b ≤ 2 ^ 46) (hroom2 : n ≤ 2 ^ 46)
    (hst : match base with | some ad => (Go.storeCells (ad.add (sLen * m)) (if n * m = 0 then #[] else Builtin.zeroCells z.cells n).toList).run P w = .ok () w' | none => w' = w) :
    (Builtin.append_ #[t, t2] ty #[.slice base sLen sCap, .int jk (n : Int)]).run P w = .ok (.slice base (sLen + n) sCap) w' := by
  have h46 : (2 : Nat) ^ 46 = 70368744177664 := by decide
  simp only [bytes?, Option.bind_eq_some_iff, Option.some.injEq] at hb
  obtain ⟨i, hi, rfl⟩ := hb
  have wl : IntKind.i64.wrap (n : Int) = n := by simp [IntKind.wrap, IntKind.bits, IntKind.signed]; omega
  have h1 : ¬ ((n : Int) < 0) := by omega
  have h2 : ¬ ((281474976710656 : Int) < (n : Int) * (i.bytes : Int)) := by
    have : (n : Int) * (i.bytes : Int) = ((n * i.bytes : Nat) : Int) := by simp
    rw [this]; omega
  by_cases h0 : n * m = 0
  · rw [if_pos h0] at hst
    cases base with
    | none =>
      subst hst
      simp [Builtin.append_, run_under _ ht, run_size _ hm, run_under _ ht2, asInt, asIntOf, wl, h1, typeInfo, hi, h2, hc, h0]
    | some ad => simp [Builtin.append_, run_under _ ht, run_size _ hm, run_under _ ht2, asInt, asIntOf, wl, h1, typeInfo, hi, h2, hc, h0] at hst ⊢; simp [hst]
  · rw [if_neg h0] at hst
    cases base with
    | none =>
      subst hst
      simp [Builtin.append_, run_under _ ht, run_size _ hm, run_under _ ht2, asInt, asIntOf, wl, h1, typeInfo, hi, h2, hc, h0, hzv]
    | some ad => simp [Builtin.append_, run_under _ ht, run_size _ hm, run_under _ ht2, asInt, asIntOf, wl, h1, typeInfo, hi, h2, hc, h0, hzv, hst]

theorem run_appZ_grow (ht : P.underlying t = some (.slice e)) (hm : size? P e = some m) (hb : bytes? P e = some b) (hzv : ∀ w, (zeroValue e).run P w = .ok z w) {ik jk : IntKind} (ht2 : P.underlying t2 = some (.int ik))
    (hc : sCap < sLen + n) (hroom : (sLen + n) * b ≤ 2 ^ 46) (hroom2 : sLen + n ≤ 2 ^ 46) {olds : Array Value}
    (ho : (Builtin.firstCells m sLen (.slice base sLen sCap)).run P w.drew = .ok olds w.drew) :
    (Builtin.append_ #[t, t2] ty #[.slice base sLen sCap, .int jk (n : Int)]).run P w = .ok (.slice (some ⟨w.heap.size, 0, none⟩) (sLen + n) (grownCap w (sLen + n) sCap e))
      (w.drew.alloc (.cells (olds ++ (if n * m = 0 then #[] else Builtin.zeroCells z.cells n) ++ Builtin.zeroCells z.cells (grownCap w (sLen + n) sCap e - (sLen + n))) e)) := by
  have h46 : (2 : Nat) ^ 46 = 70368744177664 := by decide
  have hn : ¬ (sLen + n ≤ sCap) := by omega
  simp only [bytes?, Option.bind_eq_some_iff, Option.some.injEq] at hb
  obtain ⟨i, hi, rfl⟩ := hb
  have hnb : n * i.bytes ≤ (sLen + n) * i.bytes := Nat.mul_le_mul_right _ (by omega)
  have wl : IntKind.i64.wrap (n : Int) = n := by simp [IntKind.wrap, IntKind.bits, IntKind.signed]; omega
  have h1 : ¬ ((n : Int) < 0) := by omega
  have h2 : ¬ ((281474976710656 : Int) < (n : Int) * (i.bytes : Int)) := by
    have : (n : Int) * (i.bytes : Int) = ((n * i.bytes : Nat) : Int) := by simp
    rw [this]; omega
  have h48 : Builtin.nextslicecap (sLen + n) sCap * i.bytes ≤ 281474976710656 := growslice_fits hc (by omega)
  have h48' : ¬ (281474976710656 < Builtin.nextslicecap (sLen + n) sCap * i.bytes) := by omega
  have h63' : ¬ (9223372036854775807 < ((sLen : Int) + (n : Int))) := by omega
  by_cases h0 : n * m = 0
  · simp [Builtin.append_, run_under _ ht, run_size _ hm, run_under _ ht2, asInt, asIntOf, wl, h1, typeInfo, hi, h2, hn, h0, h63', h48', Question.forced, ho, hzv, newRow, grownCap]
  · simp [Builtin.append_, run_under _ ht, run_size _ hm, run_under _ ht2, asInt, asIntOf, wl, h1, typeInfo, hi, h2, hn, h0, h63', h48', Question.forced, ho, hzv, newRow, grownCap]
end runs

end Go.Ab

/- Operations, ninth part: what append does to the rows. -/
namespace Go.Ab
open Go
variable [Globs]

/-- E5': row r begins later in its block, and is another generation. -/
theorem shift_ext {X : Cx} {w' : World} {r n g g' : Nat} {xs ys : List (List V)} {l : Loc} (ht : Touched X.w w' (X.L r).block) (hr : X.τ r = some (.arr n g xs)) (hc : 0 < (X.L r).cap) (hg : g < g')
    (hl : l.block = (X.L r).block) : Ext X (X.move w' r (.arr n g' ys) l) where
  drawn := fun _ => ht.drawn
  os := ht.os
  tape := ht.tape
  output := ht.output
  size := by show X.w.heap.size ≤ w'.heap.size; rw [ht.size]; omega
  blk := fun b _ hn => ht.blk b fun e => hn ⟨r, _, hr, hc, e.symm⟩
  own := fun b hb => by
    obtain ⟨q, row1, hq, hoq, rfl⟩ := hb
    by_cases e : q = r
    · subst e
      refine .inl ⟨q, _, hr, hc, ?_⟩
      simp only [Cx.move, upd1_same]
      exact hl.symm
    · simp only [Cx.move, upd1_ne _ _ e] at hq hoq ⊢
      exact .inl ⟨q, row1, hq, hoq, rfl⟩
  S := fun _ _ h => h
  T := fun _ _ h => h
  nS := fun _ _ h => .inl h
  nT := fun _ _ h => .inl h
  refs := fun q row1 hq => by
    by_cases e : q = r
    · subst e
      rw [hr] at hq
      cases hq
      exact ⟨_, by simp [Cx.move]; rfl, .grow _ _ _ _ _ _ _ hg⟩
    · exact ⟨row1, by simp only [Cx.move, upd1_ne _ _ e]; exact hq, by simp only [Cx.move, upd1_ne _ _ e]; exact RowStep.refl _ _⟩

theorem shift_sto {X : Cx} (hX : StoR X) {w' : World} {r n g g' : Nat} {xs ys : List (List V)} {l : Loc} (ht : Touched X.w w' (X.L r).block) (hr : X.τ r = some (.arr n g xs)) (hc : 0 < (X.L r).cap) (hg : g < g')
    (hl : l.block = (X.L r).block) (hrow : RowR (X.move w' r (.arr n g' ys) l) r (.arr n g' ys)) : StoR (X.move w' r (.arr n g' ys) l) where
  rows := fun q row1 hq => by
    by_cases e : q = r
    · subst e
      simp only [Cx.move, upd1_same, Option.some.injEq] at hq
      subst hq
      exact hrow
    · have hq' : X.τ q = some row1 := by simpa only [Cx.move, upd1_ne _ _ e] using hq
      refine (hX.rows q row1 hq').keep hX (shift_ext ht hr hc hg hl) (by simp only [Cx.move, upd1_ne _ _ e]) fun hoq => ht.blk _ fun eb => e ?_
      exact hX.inj q r row1 _ hq' hr hoq hc eb
  inj := fun q q' row1 row2 hq hq' hoq hoq' hb => by
    by_cases e : q = r <;> by_cases e' : q' = r
    · rw [e, e']
    · subst e
      simp only [Cx.move, upd1_same, upd1_ne _ _ e'] at hq' hoq' hb
      exact hX.inj q q' _ row2 hr hq' hc hoq' (hl ▸ hb)
    · subst e'
      simp only [Cx.move, upd1_same, upd1_ne _ _ e] at hq hoq hb
      exact hX.inj q q' row1 _ hq hr hoq hc (hl ▸ hb)
    · simp only [Cx.move, upd1_ne _ _ e, upd1_ne _ _ e'] at hq hq' hoq hoq' hb
      exact hX.inj q q' row1 row2 hq hq' hoq hoq' hb
  sep := fun b o' hb hown => by
    rcases (shift_ext ht hr hc hg hl (ys := ys)).own b hown with h | h
    · exact hX.sep b o' hb h
    · obtain ⟨u, hu⟩ := hX.live b o' hb
      have := lt_of_cell hu
      omega
  sub := hX.sub
  glob := GlobR.ext hX (shift_ext ht hr hc hg hl)
  live := fun b o' hb => by
    obtain ⟨u, hu⟩ := hX.live b o' hb
    exact ⟨u, (cell_of_blk (ht.blk b fun e => hX.sep b o' hb ⟨r, _, hr, hc, e.symm⟩) o').trans hu⟩

structure AppRun (P : Program) (o : Oper) (a : Act) (X : Cx) (us : Value) (m b n : Nat) (news : Array Value) (e : TypeId) (z : Value) : Prop where
  inn : ∀ base sLen sCap w', us = .slice base sLen sCap → sLen + n ≤ sCap → (match base with | some ad => (Go.storeCells (ad.add (sLen * m)) news.toList).run P X.w = .ok () w' | none => w' = X.w) →
    (execOp a.eval o).run P X.w = .ok (.value (.slice base (sLen + n) sCap)) w'
  grow : ∀ base sLen sCap (olds : Array Value), us = .slice base sLen sCap → sCap < sLen + n → (sLen + n) * b ≤ 2 ^ 46 → sLen + n ≤ 2 ^ 46 →
    (Builtin.firstCells m sLen us).run P X.w.drew = .ok olds X.w.drew →
    (execOp a.eval o).run P X.w = .ok (.value (.slice (some ⟨X.w.heap.size, 0, none⟩) (sLen + n) (grownCap X.w (sLen + n) sCap e)))
      (X.w.drew.alloc (.cells (olds ++ news ++ Builtin.zeroCells z.cells (grownCap X.w (sLen + n) sCap e - (sLen + n))) e))

/-- The appended cells. -/
structure NewsR (w : World) (S : Sup) (m : Nat) (ys : List (List V)) (news : Array Value) : Prop where
  size : news.size = ys.length * m
  all : ∀ cs ∈ ys, cs.length = m
  vr : ∀ i cs, ys[i]? = some cs → ∀ j v, cs[j]? = some v → VR w S v (news.getD (i * m + j) undef)

theorem NewsR.one {w : World} {S : Sup} {m : Nat} {ys : List (List V)} {news : Array Value} (h : NewsR w S m ys news) (hm : 0 < m) : ∀ v ∈ news.toList, v.oneCell' = true := fun v hv => by
  obtain ⟨j, hj, rfl⟩ := List.mem_iff_getElem.1 hv
  have hj' : j < news.size := by simpa using hj
  rw [h.size] at hj'
  obtain ⟨i, k, hi, hk, rfl⟩ := split_index hm hj'
  have hcs : ys[i].length = m := h.all _ (List.getElem_mem hi)
  have := (h.vr i ys[i] (List.getElem?_eq_getElem hi) k (ys[i][k]'(by omega)) (List.getElem?_eq_getElem (by omega))).one
  have hlt : i * m + k < news.size := by rw [h.size]; exact index_lt hi hk
  rw [Array.getD_eq_getD_getElem?, Array.getElem?_eq_getElem hlt] at this
  simpa using this

theorem getD_app (a b : Array Value) (j : Nat) : (a ++ b).getD j undef = if j < a.size then a.getD j undef else b.getD (j - a.size) undef := by
  rw [Array.getD_eq_getD_getElem?, Array.getD_eq_getD_getElem?, Array.getD_eq_getD_getElem?, Array.getElem?_append]
  split <;> rfl

theorem grownCap_room (w : World) (need old : Nat) (e : TypeId) : need ≤ grownCap w need old e := by
  unfold grownCap
  simp only [Question.cut]
  omega

section
variable {P : Program} {o : Oper} {X : Cx} {a : Act} (hX : StoR X)
include hX

/-- A new row behind an append that grew. -/
theorem app_fresh {σ : Sto} {m n k cap : Nat} {e : TypeId} {z : Value} {zs : List (List V)} {olds news : Array Value} {xs ys : List (List V)} (hm : 0 < m) (hq : X.τ σ.length = none)
    (hxs : xs.length = k) (hys : ys.length = n) (hcap : k + n ≤ cap) (ho : NewsR X.w X.S m xs olds) (hn : NewsR X.w X.S m ys news) (hzs : zs = xs ++ ys) (hz : z.cells.size = m)
    (hrun : (execOp a.eval o).run P X.w = .ok (.value (.slice (some ⟨X.w.heap.size, 0, none⟩) (k + n) cap)) (X.w.drew.alloc (.cells (olds ++ news ++ Builtin.zeroCells z.cells (cap - (k + n))) e))) :
    Sim P o X a (fun X' u => DR X' (.rs σ.length 0 m 0 (k + n)) u ∧ X'.τ = upd1 X.τ σ.length (some (.arr m 0 zs))) := by
  subst hzs
  have hfr : Fresh X.w (X.w.drew.alloc (.cells (olds ++ news ++ Builtin.zeroCells z.cells (cap - (k + n))) e)) (.cells (olds ++ news ++ Builtin.zeroCells z.cells (cap - (k + n))) e) := ⟨rfl, rfl, rfl, rfl, Nat.le_succ _⟩
  let lc : Loc := ⟨X.w.heap.size, 0, cap⟩
  have he := add_ext (row := .arr m 0 (xs ++ ys)) (l := lc) hfr hq rfl
  have hL : (X.add (X.w.drew.alloc (.cells (olds ++ news ++ Builtin.zeroCells z.cells (cap - (k + n))) e)) σ.length (.arr m 0 (xs ++ ys)) lc).L σ.length = lc := upd1_same _ _ _
  refine Sim.value hrun he (add_sto hX hfr hq rfl ⟨hm, ?_, ?_, ?_⟩) ⟨?_, rfl⟩
  · intro cs hcs
    rcases List.mem_append.1 hcs with h | h
    · exact ho.all cs h
    · exact hn.all cs h
  · rw [hL, List.length_append]; show _ ≤ cap; omega
  · rw [hL]
    intro _
    refine ⟨_, e, hfr.new, ?_, fun i cs hi j v hj => ?_⟩
    · show 0 + cap * m ≤ _
      simp only [Array.size_append, ho.size, hn.size, size_zeroCells, hz, hxs, hys]
      rw [Nat.zero_add, ← Nat.add_mul, ← Nat.add_mul]
      exact Nat.mul_le_mul_right _ (by omega)
    · refine VR.mono (w := X.w) (S := X.S) ?_ he.S (he.cellS hX)
      show VR _ _ v (Array.getD _ (0 + i * m + j) undef)
      rw [Nat.zero_add]
      have hjm : j < m := by
        have : cs.length = m := by
          rcases List.mem_append.1 (List.mem_of_getElem? hi) with h | h
          · exact ho.all cs h
          · exact hn.all cs h
        rw [← this]; exact (List.getElem?_eq_some_iff.1 hj).1
      by_cases hik : i < k
      · rw [List.getElem?_append_left (by omega)] at hi
        have hlt := index_lt hik hjm
        rw [Array.append_assoc, getD_app, if_pos (by rw [ho.size, hxs]; exact hlt)]
        exact ho.vr i cs hi j v hj
      · rw [List.getElem?_append_right (by omega), hxs] at hi
        have hi' : i - k < n := by rw [← hys]; exact (List.getElem?_eq_some_iff.1 hi).1
        have hlt := index_lt hi' hjm
        have e1 : i * m = k * m + (i - k) * m := by rw [← Nat.add_mul]; congr 1; omega
        rw [Array.append_assoc, getD_app, if_neg (by rw [ho.size, hxs]; omega), getD_app, if_pos (by rw [ho.size, hn.size, hxs, hys]; omega)]
        have := hn.vr (i - k) cs hi j v hj
        rw [ho.size, hxs, show i * m + j - k * m = (i - k) * m + j by omega]
        exact this
  · simp only [DR]
    refine ⟨_, _, rfl, hcap, fun _ => ⟨_, _, rfl⟩, m, 0, xs ++ ys, .inl (upd1_same _ _ _), Nat.le_refl _, fun _ => ⟨rfl, by rw [List.length_append]; omega, ?_, fun _ => ?_⟩⟩
    · rw [hL]; show 0 + cap = cap; omega
    · rw [hL]; show some (at_ X.w.heap.size 0) = some (at_ X.w.heap.size (0 + 0 * m)); simp

theorem append_ok {σ σ' : Sto} {m b : Nat} {ds d : D} {us : Value} {ys : List (List V)} {news : Array Value} {e : TypeId} {z : Value} (hd : DR X ds us) (hτ : ∀ q ∈ refsD ds, X.τ q = σ[q]?) (hqq : σ.length < σ'.length → X.τ σ.length = none)
    (hn : NewsR X.w X.S m ys news) (hz : z.cells.size = m) (hr : AppRun P o a X us m b ys.length news e z) (h : appendTo m b ds ys σ = some (d, σ')) :
    Sim P o X a (fun X' u => DR X' d u ∧ X'.τ = fun q => if q ∈ refsD ds ∨ (σ.length ≤ q ∧ q < σ'.length) then σ'[q]? else X.τ q) ∧ σ.length ≤ σ'.length ∧ ∀ q, q ∉ refsD ds → q < σ.length → σ'[q]? = σ[q]? := by
  have newrow : ∀ row, (fun q => if q ∈ refsD ds ∨ (σ.length ≤ q ∧ q < (σ ++ [row]).length) then (σ ++ [row])[q]? else X.τ q) = upd1 X.τ σ.length (some row) := by
    intro row
    funext q
    by_cases e : q = σ.length
    · subst e
      rw [upd1_same, if_pos (.inr ⟨Nat.le_refl _, by simp⟩)]
      simp
    · rw [upd1_ne _ _ e]
      by_cases hq' : q ∈ refsD ds
      · rw [if_pos (.inl hq'), hτ q hq']
        by_cases hlt : q < σ.length
        · rw [List.getElem?_append_left hlt]
        · have h1 : (σ ++ [row])[q]? = none := List.getElem?_eq_none (by simp; omega)
          have h2 : σ[q]? = none := List.getElem?_eq_none (by omega)
          rw [h1, h2]
      · rw [if_neg (by
          rintro (h | ⟨h1, h2⟩)
          · exact hq' h
          · simp at h2; omega)]
  have keepnew : ∀ row q, q < σ.length → (σ ++ [row])[q]? = σ[q]? := fun row q hq => List.getElem?_append_left hq
  have samerow : (fun q => if q ∈ refsD ds ∨ (σ.length ≤ q ∧ q < σ.length) then σ[q]? else X.τ q) = X.τ := by
    funext q
    by_cases hq' : q ∈ refsD ds
    · rw [if_pos (.inl hq'), hτ q hq']
    · rw [if_neg (by rintro (h | ⟨h1, h2⟩); exact hq' h; omega)]
  unfold appendTo at h
  split at h
  · by_cases hc : 0 < m ∧ room b ys.length = true
    · simp [hc] at h
      obtain ⟨rfl, rfl⟩ := h
      obtain ⟨hm, hroom⟩ := hc
      simp only [room, Bool.and_eq_true, decide_eq_true_eq] at hroom
      have hq := hqq (by simp)
      refine ⟨?_, by simp, fun q _ hlt => keepnew _ q hlt⟩
      rw [newrow]
      simp only [DR] at hd
      cases hd with
      | nils =>
        rcases Nat.eq_zero_or_pos ys.length with h0 | h0
        · have hy : ys = [] := List.eq_nil_of_length_eq_zero h0
          subst hy
          have hn0 : news = #[] := by have := hn.size; simpa using this
          subst hn0
          have hrun := hr.inn none 0 0 X.w rfl (by simp) (by simp [Go.storeCells])
          let lc : Loc := ⟨0, 0, 0⟩
          have hno : ¬ (Row.arr m 0 []).owns lc := by show ¬ (0 < 0); omega
          have hL : (X.add X.w σ.length (.arr m 0 []) lc).L σ.length = lc := upd1_same _ _ _
          refine Sim.value (X' := X.add X.w σ.length (.arr m 0 []) lc) hrun (add0_ext hq hno) (add0_sto hX hq hno ⟨hm, by simp, by simp, fun hc => ?_⟩) ⟨?_, rfl⟩
          · rw [hL] at hc; exact absurd hc (by show ¬ (0 < 0); omega)
          · simp only [DR]
            refine ⟨_, _, rfl, by simp, fun h => by simp at h, m, 0, [], .inl (upd1_same _ _ _), Nat.le_refl _, fun _ => ⟨rfl, by simp, ?_, fun h => by omega⟩⟩
            rw [hL]
        · have hrun := hr.grow none 0 0 #[] rfl (by omega) (by simpa using hroom.1) (by simpa using hroom.2) (by simp [Builtin.firstCells, Go.loadCells, Go.loadCellsFrom])
          have := app_fresh (σ := σ) (k := 0) (n := ys.length) (xs := []) (ys := ys) (zs := ys) (olds := #[]) hX hm hq rfl rfl (grownCap_room _ _ _ _) ⟨by simp, by simp, by simp⟩ hn rfl hz hrun
          simpa using this
    · exfalso
      rcases Decidable.not_and_iff_not_or_not.1 hc with hc | hc
      · simp [show m = 0 by omega] at h
      · simp [show room b ys.length = false by simpa using hc] at h
  · rename_i m' xs
    by_cases hc : m' = m ∧ 0 < m ∧ room b (xs.length + ys.length) = true
    · obtain ⟨rfl, hm, hroom⟩ := hc
      simp [hm, hroom] at h
      simp only [room, Bool.and_eq_true, decide_eq_true_eq] at hroom
      simp only [DR] at hd
      split at h
      · simp only [Option.some.injEq, Prod.mk.injEq] at h
        obtain ⟨rfl, rfl⟩ := h
        refine ⟨?_, Nat.le_refl _, fun q _ _ => rfl⟩
        rw [samerow]
        obtain ⟨ad, b', o', vs, h1, h2, h3, h4, h5, h6⟩ := hd
        have hn0 : news = #[] := by have := hn.size; simpa using this
        subst hn0
        have hrun := hr.inn ad _ _ X.w h1 (by simp) (by cases ad <;> simp [Go.storeCells])
        refine Sim.value (X' := X) hrun (Ext.refl X) hX ⟨?_, rfl⟩
        simp only [DR]
        exact ⟨ad, b', o', vs, by simp, h2, h3, h4, h5, h6⟩
      · rename_i y ys' 
        simp only [Option.some.injEq, Prod.mk.injEq] at h
        obtain ⟨rfl, rfl⟩ := h
        have hq := hqq (by simp)
        refine ⟨?_, by simp, fun q _ hlt => keepnew _ q hlt⟩
        rw [newrow]
        have hsrc := src_of_cells (P := P) hd
        obtain ⟨olds, o1, o2, o3⟩ := hsrc.first X.w.drew rfl xs.length (Nat.le_refl _)
        obtain ⟨ad, b', o', vs, h1, h2, h3, h4, h5, h6⟩ := hd
        have hrun := hr.grow ad _ _ olds h1 (by simp) (by simpa using hroom.1) (by simpa using hroom.2) o1
        exact app_fresh (σ := σ) (k := xs.length) (n := (y :: ys').length) hX hm hq rfl rfl (grownCap_room _ _ _ _) ⟨o2, h3, fun i cs hi j v hj => o3 i cs hi (List.getElem?_eq_some_iff.1 hi).1 j v hj⟩ hn rfl hz hrun
    · exfalso
      rcases Decidable.not_and_iff_not_or_not.1 hc with hc | hc
      · have hm' : (m' == m) = false := by simpa using hc
        simp [hm'] at h
      · rcases Decidable.not_and_iff_not_or_not.1 hc with hc | hc
        · simp [show m = 0 by omega] at h
        · simp [show room b (xs.length + ys.length) = false by simpa using hc] at h
  · rename_i r g m' off n
    simp only [Option.bind_eq_some_iff] at h
    obtain ⟨xs, hxs, h⟩ := h
    obtain ⟨mm, hσ⟩ := mutAt_ok hxs
    have hlt : r < σ.length := (List.getElem?_eq_some_iff.1 hσ).1
    have hr1 : X.τ r = some (.arr mm g xs) := by rw [hτ r (by simp [refsD]), hσ]
    have setrow : ∀ row, (fun q => if q ∈ refsD (D.rs r g m' off n) ∨ (σ.length ≤ q ∧ q < (σ.set r row).length) then (σ.set r row)[q]? else X.τ q) = upd1 X.τ r (some row) := by
      intro row
      funext q
      by_cases e : q = r
      · subst e
        rw [upd1_same, if_pos (.inl (by simp [refsD])), List.getElem?_set_self hlt]
      · rw [upd1_ne _ _ e, if_neg (by
          rintro (h | ⟨h1, h2⟩)
          · exact e (by simpa [refsD] using h)
          · simp at h2; omega)]
    by_cases hc : m' = m ∧ room b (xs.length + ys.length) = true
    · obtain ⟨rfl, hroom⟩ := hc
      simp [hroom] at h
      simp only [room, Bool.and_eq_true, decide_eq_true_eq] at hroom
      have hd0 := hd
      simp only [DR] at hd
      obtain ⟨ad, c, h1, h2, h3, h4⟩ := hd
      obtain ⟨rfl, h5, h6, h7⟩ := h4.now (.inl hr1)
      obtain ⟨g0, g1, g2, g3⟩ := hX.rows r _ hr1
      -- writing in place
      have inplace : ∀ (k : Nat), ys.length = k → n + k ≤ c → 0 < c → ∃ cc ee, X.w.heap[(X.L r).block]? = some (.cells cc ee (0, 0)) ∧ (X.L r).off + (X.L r).cap * mm ≤ cc.size ∧
          (X.L r).off + (off + n) * mm + news.toList.length ≤ cc.size ∧
          (∀ i cs, xs[i]? = some cs → ∀ j v, cs[j]? = some v → VR X.w X.S v (cc.getD ((X.L r).off + i * mm + j) undef)) ∧
          (execOp a.eval o).run P X.w = .ok (.value (.slice ad (n + k) c)) (X.w.setRow (X.L r).block (cc.toList.take ((X.L r).off + (off + n) * mm) ++ news.toList ++ cc.toList.drop ((X.L r).off + (off + n) * mm + news.toList.length)).toArray) := by
        intro k hk hle hc0
        obtain ⟨cc, ee, g4, g5, g6⟩ := g3 (by omega)
        have hsz : news.toList.length = k * mm := by simp [hn.size, hk]
        have hmul : (off + n) * mm + k * mm ≤ (X.L r).cap * mm := by rw [← Nat.add_mul]; exact Nat.mul_le_mul_right _ (by omega)
        have hsp : (X.L r).off + (off + n) * mm + news.toList.length ≤ cc.size := by omega
        refine ⟨cc, ee, g4, g5, hsp, g6, ?_⟩
        have hst := run_storeCells_at (P := P) (X.L r).block ((X.L r).off + (off + n) * mm) ee news.toList 0 cc X.w g4 (by omega) (hn.one g0)
        rw [Nat.add_zero] at hst
        rw [← hk]
        refine hr.inn ad n c _ h1 (by omega) ?_
        rw [h7 hc0]
        simp only
        rw [add_at, Nat.add_assoc, ← Nat.add_mul]
        exact hst
      by_cases hfit : off + n + ys.length ≤ xs.length
      · simp [hfit] at h
        obtain ⟨rfl, rfl⟩ := h
        refine ⟨?_, by simp, fun q hq' _ => List.getElem?_set_ne (fun e => hq' (by simp [refsD, e])) ..⟩
        rw [setrow]
        rcases Nat.eq_zero_or_pos c with hc0 | hc0
        · -- no room at all: nothing is appended
          have hy0 : ys = [] := List.eq_nil_of_length_eq_zero (by omega)
          subst hy0
          have hn0 : news = #[] := by have := hn.size; simpa using this
          subst hn0
          have hrun := hr.inn ad n c X.w h1 (by simp; omega) (by cases ad <;> simp [Go.storeCells])
          have : upd1 X.τ r (some (.arr mm g (setRange xs (off + n) []))) = X.τ := by
            funext q
            by_cases e : q = r
            · subst e; rw [upd1_same, hr1]; rfl
            · rw [upd1_ne _ _ e]
          rw [this]
          refine Sim.value (X' := X) hrun (Ext.refl X) hX ⟨?_, rfl⟩
          rw [h1] at hd0
          simpa using hd0
        · obtain ⟨cc, ee, g4, g5, hsp, g6, hrun⟩ := inplace ys.length rfl (by omega) hc0
          have hsz : news.toList.length = ys.length * mm := by simp [hn.size]
          have hw := arr_write hX hr1 (by omega) (xs' := setRange xs (off + n) ys) g4 (splice_size _ _ _ hsp) (setRange_length _ _ _)
            (fun cs hcs => by
              obtain ⟨i, hi⟩ := List.mem_iff_getElem?.1 hcs
              rw [setRange_get _ _ _ hfit] at hi
              split at hi
              · exact hn.all cs (List.mem_of_getElem? hi)
              · exact g1 cs (List.mem_of_getElem? hi))
            (fun i cs hi j v hj => by
              rw [setRange_get _ _ _ hfit] at hi
              rw [getD_splice _ _ _ hsp, hsz]
              by_cases hin : off + n ≤ i ∧ i < off + n + ys.length
              · rw [if_pos hin] at hi
                have hjm : j < mm := by rw [← hn.all cs (List.mem_of_getElem? hi)]; exact (List.getElem?_eq_some_iff.1 hj).1
                have e1 : i * mm = (off + n) * mm + (i - (off + n)) * mm := by rw [← Nat.add_mul]; congr 1; omega
                have hlt2 := index_lt (show i - (off + n) < ys.length by omega) hjm
                rw [if_pos (by omega), getD_toList, show (X.L r).off + i * mm + j - ((X.L r).off + (off + n) * mm) = (i - (off + n)) * mm + j by omega]
                exact hn.vr _ cs hi j v hj
              · rw [if_neg hin] at hi
                have hjm : j < mm := by rw [← g1 cs (List.mem_of_getElem? hi)]; exact (List.getElem?_eq_some_iff.1 hj).1
                have hne : ¬ ((X.L r).off + (off + n) * mm ≤ (X.L r).off + i * mm + j ∧ (X.L r).off + i * mm + j < (X.L r).off + (off + n) * mm + ys.length * mm) := by
                  intro hh
                  rcases Nat.lt_or_ge i (off + n) with hlt' | hge'
                  · have := Nat.mul_le_mul_right mm (Nat.succ_le_of_lt hlt')
                    rw [Nat.succ_mul] at this
                    omega
                  · have hge2 : off + n + ys.length ≤ i := by omega
                    have := Nat.mul_le_mul_right mm hge2
                    rw [Nat.add_mul] at this
                    omega
                rw [if_neg hne]
                exact g6 i cs hi j v hj)
          refine Sim.value hrun hw.1 hw.2 ⟨?_, rfl⟩
          simp only [DR]
          refine ⟨ad, c, rfl, by omega, fun _ => ⟨_, _, h7 hc0⟩, mm, g, _, .inl (upd1_same _ _ _), Nat.le_refl _, fun _ => ⟨rfl, by rw [setRange_length]; omega, h6, h7⟩⟩
      · by_cases htail : off + n = xs.length
        · have ht' : (off + n == xs.length) = true := by simpa using htail
          simp [hfit, ht'] at h
          obtain ⟨rfl, rfl⟩ := h
          refine ⟨?_, by simp, fun q hq' _ => List.getElem?_set_ne (fun e => hq' (by simp [refsD, e])) ..⟩
          rw [setrow]
          have hdl : (xs.drop off).length = n := by rw [List.length_drop]; omega
          have hall : ∀ cs ∈ xs.drop off ++ ys, cs.length = mm := fun cs hcs => by
            rcases List.mem_append.1 hcs with h | h
            · exact g1 cs (List.mem_of_mem_drop h)
            · exact hn.all cs h
          by_cases hroomc : n + ys.length ≤ c
          · -- in place
            have hc0 : 0 < c := by omega
            obtain ⟨cc, ee, g4, g5, hsp, g6, hrun⟩ := inplace ys.length rfl hroomc hc0
            have hsz : news.toList.length = ys.length * mm := by simp [hn.size]
            let lc : Loc := ⟨(X.L r).block, (X.L r).off + off * mm, c⟩
            have htch := Touched.setRow X.w (X.L r).block (cc.toList.take ((X.L r).off + (off + n) * mm) ++ news.toList ++ cc.toList.drop ((X.L r).off + (off + n) * mm + news.toList.length)).toArray
            have hcap : 0 < (X.L r).cap := by omega
            have he := shift_ext (ys := xs.drop off ++ ys) (l := lc) htch hr1 hcap (Nat.lt_succ_self g) rfl
            have hL : ∀ w'', (X.move w'' r (.arr mm (g + 1) (xs.drop off ++ ys)) lc).L r = lc := fun _ => upd1_same _ _ _
            refine Sim.value hrun he (shift_sto hX htch hr1 hcap (Nat.lt_succ_self g) rfl ⟨g0, hall, ?_, fun _ => ⟨(cc.toList.take ((X.L r).off + (off + n) * mm) ++ news.toList ++ cc.toList.drop ((X.L r).off + (off + n) * mm + news.toList.length)).toArray, ee, ?_, ?_, fun i cs hi j v hj => ?_⟩⟩) ⟨?_, rfl⟩
            · rw [hL, List.length_append, hdl]; exact hroomc
            · rw [hL]; exact setRow_heap _ _ _ _ _ _ g4
            · rw [hL, splice_size _ _ _ hsp]
              show (X.L r).off + off * mm + c * mm ≤ cc.size
              have : off * mm + c * mm = (X.L r).cap * mm := by rw [← Nat.add_mul, h6]
              omega
            · rw [hL]
              refine VR.mono (w := X.w) (S := X.S) ?_ he.S (he.cellS hX)
              show VR X.w X.S v (Array.getD _ ((X.L r).off + off * mm + i * mm + j) undef)
              have hjm : j < mm := by rw [← hall cs (List.mem_of_getElem? hi)]; exact (List.getElem?_eq_some_iff.1 hj).1
              rw [getD_splice _ _ _ hsp, hsz]
              by_cases hin : i < n
              · rw [List.getElem?_append_left (by omega), List.getElem?_drop] at hi
                have hlt2 := index_lt (show off + i < off + n by omega) hjm
                rw [Nat.add_mul] at hlt2
                rw [if_neg (by omega)]
                have := g6 (off + i) cs hi j v hj
                rwa [Nat.add_mul, ← Nat.add_assoc] at this
              · rw [List.getElem?_append_right (by omega), hdl] at hi
                have hi' : i - n < ys.length := (List.getElem?_eq_some_iff.1 hi).1
                have hlt2 := index_lt hi' hjm
                have e1 : off * mm + i * mm = (off + n) * mm + (i - n) * mm := by rw [← Nat.add_mul, ← Nat.add_mul]; congr 1; omega
                rw [if_pos (by omega), getD_toList, show (X.L r).off + off * mm + i * mm + j - ((X.L r).off + (off + n) * mm) = (i - n) * mm + j by omega]
                exact hn.vr _ cs hi j v hj
            · simp only [DR]
              refine ⟨ad, c, rfl, hroomc, fun _ => ⟨_, _, h7 hc0⟩, mm, g + 1, _, .inl (upd1_same _ _ _), Nat.le_refl _, fun _ => ⟨rfl, by rw [List.length_append, hdl]; omega, ?_, fun _ => ?_⟩⟩
              · rw [hL]; show 0 + c = c; omega
              · rw [hL, h7 hc0]; show _ = some (at_ (X.L r).block ((X.L r).off + off * mm + 0 * mm)); simp
          · -- a new block
            have hsrc : ∃ olds : Array Value, (Builtin.firstCells mm n us).run P X.w.drew = .ok olds X.w.drew ∧ NewsR X.w X.S mm (xs.drop off) olds := by
              have hw : window xs off n = xs.drop off := by unfold window; rw [List.take_of_length_le (by omega)]
              have he : elems mm σ (D.rs r g mm off n) = some (xs.drop off) := by
                simp only [elems, beq_self_eq_true, cond_true, rowAt, hσ]
                simp [hw]
              have hs := elems_ok (P := P) hX hd0 hτ he
              obtain ⟨olds, o1, o2, o3⟩ := hs.first X.w.drew rfl n (by omega)
              exact ⟨olds, o1, by rw [o2, hdl], hs.all, fun i cs hi j v hj => o3 i cs hi (by have := (List.getElem?_eq_some_iff.1 hi).1; omega) j v hj⟩
            obtain ⟨olds, o1, o2⟩ := hsrc
            have hle1 : (n + ys.length) * b ≤ (xs.length + ys.length) * b := Nat.mul_le_mul_right _ (by omega)
            have hrun := hr.grow ad n c olds h1 (by omega) (by omega) (by omega) o1
            have hfr : Fresh X.w (X.w.drew.alloc (.cells (olds ++ news ++ Builtin.zeroCells z.cells (grownCap X.w (n + ys.length) c e - (n + ys.length))) e)) (.cells (olds ++ news ++ Builtin.zeroCells z.cells (grownCap X.w (n + ys.length) c e - (n + ys.length))) e) := ⟨rfl, rfl, rfl, rfl, Nat.le_succ _⟩
            have hgc := grownCap_room X.w (n + ys.length) c e
            generalize grownCap X.w (n + ys.length) c e = cap at hrun hfr hgc
            let lc : Loc := ⟨X.w.heap.size, 0, cap⟩
            have he := move_ext (ys := xs.drop off ++ ys) (l := lc) hfr hr1 (Nat.lt_succ_self g) rfl
            have hL : ∀ w'', (X.move w'' r (.arr mm (g + 1) (xs.drop off ++ ys)) lc).L r = lc := fun _ => upd1_same _ _ _
            refine Sim.value hrun he (move_sto hX hfr hr1 (Nat.lt_succ_self g) rfl ⟨g0, hall, ?_, fun _ => ⟨olds ++ news ++ Builtin.zeroCells z.cells (cap - (n + ys.length)), e, ?_, ?_, fun i cs hi j v hj => ?_⟩⟩) ⟨?_, rfl⟩
            · rw [hL, List.length_append, hdl]; exact hgc
            · rw [hL]; exact hfr.new
            · rw [hL]
              show 0 + cap * mm ≤ _
              simp only [Array.size_append, o2.size, hn.size, size_zeroCells, hz, hdl]
              rw [Nat.zero_add, ← Nat.add_mul, ← Nat.add_mul]
              exact Nat.mul_le_mul_right _ (by omega)
            · rw [hL]
              refine VR.mono (w := X.w) (S := X.S) ?_ he.S (he.cellS hX)
              show VR X.w X.S v (Array.getD _ (0 + i * mm + j) undef)
              rw [Nat.zero_add]
              have hjm : j < mm := by rw [← hall cs (List.mem_of_getElem? hi)]; exact (List.getElem?_eq_some_iff.1 hj).1
              by_cases hin : i < n
              · rw [List.getElem?_append_left (by omega)] at hi
                have hlt2 := index_lt hin hjm
                rw [Array.append_assoc, getD_app, if_pos (by rw [o2.size, hdl]; exact hlt2)]
                exact o2.vr i cs hi j v hj
              · rw [List.getElem?_append_right (by omega), hdl] at hi
                have hi' : i - n < ys.length := (List.getElem?_eq_some_iff.1 hi).1
                have hlt2 := index_lt hi' hjm
                have e1 : i * mm = n * mm + (i - n) * mm := by rw [← Nat.add_mul]; congr 1; omega
                rw [Array.append_assoc, getD_app, if_neg (by rw [o2.size, hdl]; omega), getD_app, if_pos (by rw [o2.size, hn.size, hdl]; omega), o2.size, hdl,
                  show i * mm + j - n * mm = (i - n) * mm + j by omega]
                exact hn.vr _ cs hi j v hj
            · simp only [DR]
              refine ⟨_, _, rfl, hgc, fun _ => ⟨_, _, rfl⟩, mm, g + 1, _, .inl (upd1_same _ _ _), Nat.le_refl _, fun _ => ⟨rfl, by rw [List.length_append, hdl]; omega, ?_, fun _ => ?_⟩⟩
              · rw [hL]; show 0 + cap = cap; omega
              · rw [hL]; show some (at_ X.w.heap.size 0) = some (at_ X.w.heap.size (0 + 0 * mm)); simp
        · have ht' : (off + n == xs.length) = false := by simpa using htail
          simp [hfit, ht'] at h
    · exfalso
      rcases Decidable.not_and_iff_not_or_not.1 hc with hc | hc
      · have hm' : (m' == m) = false := by simpa using hc
        simp [hm'] at h
      · simp [show room b (xs.length + ys.length) = false by simpa using hc] at h
  · cases h
end

end Go.Ab

/- Operations, tenth part: equality, binary operations. -/
namespace Go.Ab
open Go
variable [Globs]

def HasR (X : Cx) (ag : Bool) (cs : List D) (u : Value) : Prop :=
  if ag then ∃ xs : Array Value, u = .agg xs ∧ xs.size = cs.length ∧ DRs X cs (fun j => xs.getD j undef) else ∃ c, cs = [c] ∧ DR X c u

theorem eqCells_split : ∀ (ks ls : List CK) (xs ys : List D) (r : Bool), eqCells (ks ++ ls) xs ys = some r →
    ∃ r1 r2, eqCells ks (xs.take ks.length) (ys.take ks.length) = some r1 ∧ eqCells ls (xs.drop ks.length) (ys.drop ks.length) = some r2 ∧ r = (r1 && r2)
  | [], ls, xs, ys, r, h => ⟨true, r, by simp [eqCells], by simpa using h, by simp⟩
  | k :: ks, ls, [], ys, r, h => by cases ys <;> simp [eqCells] at h
  | k :: ks, ls, x :: xs, [], r, h => by simp [eqCells] at h
  | k :: ks, ls, x :: xs, y :: ys, r, h => by
    simp only [List.cons_append, eqCells, Option.bind_eq_some_iff, Option.some.injEq] at h
    obtain ⟨b, h1, c, h2, rfl⟩ := h
    obtain ⟨r1, r2, h3, h4, rfl⟩ := eqCells_split ks ls xs ys c h2
    refine ⟨b && r1, r2, ?_, by simpa using h4, by simp [Bool.and_assoc]⟩
    simp [eqCells, h1, h3]

theorem eqCells_length : ∀ (ks : List CK) (xs ys : List D) (r : Bool), eqCells ks xs ys = some r → xs.length = ks.length ∧ ys.length = ks.length
  | [], [], [], _, _ => by simp
  | k :: ks, x :: xs, y :: ys, r, h => by
    simp only [eqCells, Option.bind_eq_some_iff, Option.some.injEq] at h
    obtain ⟨b, h1, c, h2, rfl⟩ := h
    have := eqCells_length ks xs ys c h2
    simp [this]
  | [], [], y :: ys, r, h => by simp [eqCells] at h
  | [], x :: xs, ys, r, h => by simp [eqCells] at h
  | k :: ks, [], ys, r, h => by simp [eqCells] at h
  | k :: ks, x :: xs, [], r, h => by simp [eqCells] at h

theorem kinds_agg {P : Program} {n : Nat} {t : TypeId} {ks : List CK} (h : plainKinds P n t = some ks) : ∃ ag, isAgg? P t = some ag ∧ (ag = false → ks.length = 1) := by
  cases n with
  | zero => simp [plainKinds] at h
  | succ n =>
    simp only [plainKinds] at h
    split at h
    · rename_i hu; simp only [Option.some.injEq] at h; subst h; exact ⟨false, by simp [isAgg?, hu], fun _ => rfl⟩
    · rename_i hu; simp only [Option.some.injEq] at h; subst h; exact ⟨false, by simp [isAgg?, hu], fun _ => rfl⟩
    · rename_i hu; simp only [Option.some.injEq] at h; subst h; exact ⟨false, by simp [isAgg?, hu], fun _ => rfl⟩
    · rename_i hu; exact ⟨true, by simp [isAgg?, hu], by simp⟩
    · cases h

theorem run_part {P : Program} {X : Cx} {t : TypeId} {ag : Bool} {n off : Nat} {xs : Array Value} {cs : List D} (hag : isAgg? P t = some ag) (hn : size? P t = some n) (h1 : ag = false → n = 1)
    (hs : xs.size = cs.length) (hd : DRs X cs (fun j => xs.getD j undef)) (hle : off + n ≤ cs.length) : ∃ u, (part t xs off).run P X.w = .ok u X.w ∧ HasR X ag ((cs.drop off).take n) u := by
  cases ag with
  | true =>
    refine ⟨.agg (xs.extract off (off + n)), by simp [part, run_isAgg X.w hag, run_size X.w hn], ?_⟩
    simp only [HasR, if_true]
    refine ⟨_, rfl, by simp; omega, ?_⟩
    rw [DRs_iff] at hd ⊢
    intro j x hj
    rw [List.getElem?_take] at hj
    split at hj
    · rw [List.getElem?_drop] at hj
      show DR X x ((xs.extract off (off + n)).getD j undef)
      rw [getD_extract xs (by omega) (by omega)]
      exact hd _ x hj
    · cases hj
  | false =>
    have hn1 := h1 rfl
    subst hn1
    have hlt : off < xs.size := by omega
    have hc : cs[off]? = some (cs[off]'(by omega)) := List.getElem?_eq_getElem (by omega)
    refine ⟨xs[off], by simp [part, run_isAgg X.w hag, hlt], ?_⟩
    simp only [HasR]
    refine ⟨cs[off]'(by omega), ?_, ?_⟩
    · rw [List.drop_eq_getElem_cons (by omega)]
      rfl
    · have := DRs_iff.1 hd off _ hc
      simpa [Array.getD_eq_getD_getElem?, hlt] using this

theorem eqIn_ok {P : Program} {X : Cx} : ∀ (n : Nat) (t : TypeId) (ks : List CK), plainKinds P n t = some ks → ∀ d, n ≤ d → ∀ (ag : Bool), isAgg? P t = some ag → ∀ (x y : Value) (cs ds : List D) (r : Bool),
    HasR X ag cs x → HasR X ag ds y → eqCells ks cs ds = some r → (Op.equalIn d t x y).run P X.w = .ok r X.w
  | 0, t, ks, h => by simp [plainKinds] at h
  | n + 1, t, ks, h => by
    intro d hd ag hag x y cs ds r hx hy he
    obtain ⟨d, rfl⟩ : ∃ k, d = k + 1 := ⟨d - 1, by omega⟩
    have basic : ∀ (k : CK) (c e : D), eqCells [k] [c] [e] = some r → eqCell k c e = some r := by
      intro k c e h
      simp only [eqCells, Option.bind_eq_some_iff, Option.some.injEq] at h
      obtain ⟨b, h1, c', h2, rfl⟩ := h
      subst h2
      simpa using h1
    simp only [plainKinds] at h
    split at h
    · rename_i hu
      simp only [Option.some.injEq] at h
      subst h
      have : ag = false := by simp [isAgg?, hu] at hag; exact hag
      subst this
      simp only [HasR] at hx hy
      obtain ⟨c, rfl, hx⟩ := hx
      obtain ⟨e, rfl, hy⟩ := hy
      have hc := basic _ _ _ he
      unfold eqCell at hc
      split at hc <;> try (first | (rename_i hh; cases hh; done) | (cases hc; done))
      · rename_i k a k' b _
        simp only [DR] at hx hy
        cases hx
        cases hy
        by_cases hk : k = k'
        · subst hk
          simp at hc
          subst hc
          simp [Op.equalIn, run_under X.w hu]
        · simp [hk] at hc
    · rename_i hu
      simp only [Option.some.injEq] at h
      subst h
      have : ag = false := by simp [isAgg?, hu] at hag; exact hag
      subst this
      simp only [HasR] at hx hy
      obtain ⟨c, rfl, hx⟩ := hx
      obtain ⟨e, rfl, hy⟩ := hy
      have hc := basic _ _ _ he
      unfold eqCell at hc
      split at hc <;> try (first | (rename_i hh; cases hh; done) | (cases hc; done))
      · simp only [DR] at hx hy
        cases hx
        cases hy
        simp only [Option.some.injEq] at hc
        subst hc
        simp [Op.equalIn, run_under X.w hu]
    · rename_i hu
      simp only [Option.some.injEq] at h
      subst h
      have : ag = false := by simp [isAgg?, hu] at hag; exact hag
      subst this
      simp only [HasR] at hx hy
      obtain ⟨c, rfl, hx⟩ := hx
      obtain ⟨e, rfl, hy⟩ := hy
      have hc := basic _ _ _ he
      unfold eqCell at hc
      split at hc <;> try (first | (rename_i hh; cases hh; done) | (cases hc; done))
      · rename_i a b _
        simp only [DR] at hx hy
        cases hx
        cases hy
        simp only [Option.some.injEq] at hc
        subst hc
        exact run_equalIn_string X.w d t _ _ hu
    · rename_i fs hu
      have : ag = true := by simp [isAgg?, hu] at hag; exact hag
      subst this
      simp only [HasR, if_true] at hx hy
      obtain ⟨xs, rfl, hx1, hx2⟩ := hx
      obtain ⟨ys, rfl, hy1, hy2⟩ := hy
      by_cases hp : P.stoodInHeld t = true
      · simp [hp] at h
      · simp only [Bool.not_eq_true] at hp
        simp only [hp, cond_false] at h
        have hfs : P.fieldsOf t = fs := by simp [Program.fieldsOf, hu]
        rw [run_equalIn_struct X.w d t xs ys (by rw [hfs]; exact hu) hp, hfs]
        have key : ∀ (fl : List Field) (o : Nat) (ks : List CK) (r : Bool), plainGo P (plainKinds P n) fl o = some ks → eqCells ks (cs.drop o) (ds.drop o) = some r → (Op.eqFields d xs ys fl).run P X.w = .ok r X.w := by
          intro fl
          induction fl with
          | nil =>
            intro o ks r hk hr
            simp only [plainGo, Option.some.injEq] at hk
            subst hk
            have hl := eqCells_length _ _ _ _ hr
            have e1 : cs.drop o = [] := List.eq_nil_of_length_eq_zero hl.1
            have e2 : ds.drop o = [] := List.eq_nil_of_length_eq_zero hl.2
            rw [e1, e2] at hr
            simp only [eqCells, Option.some.injEq] at hr
            subst hr
            simp [Op.eqFields]
          | cons f fl ih =>
            intro o ks r hk hr
            simp only [plainGo] at hk
            by_cases hc : f.name ≠ "_" ∧ f.offset = o
            · obtain ⟨hnm, rfl⟩ := hc
              have hnm' : (f.name != "_") = true := by simpa using hnm
              simp only [hnm', beq_self_eq_true, Bool.and_self, cond_true, Option.bind_eq_some_iff] at hk
              obtain ⟨k1, hk1, hk⟩ := hk
              by_cases hsz : size? P f.type = some k1.length
              · simp only [hsz, beq_self_eq_true, cond_true, Option.bind_eq_some_iff, Option.some.injEq] at hk
                obtain ⟨k2, hk2, rfl⟩ := hk
                obtain ⟨r1, r2, h1, h2, rfl⟩ := eqCells_split k1 k2 _ _ r hr
                have hl := eqCells_length _ _ _ _ hr
                simp only [List.length_drop, List.length_append] at hl
                obtain ⟨agf, ha1, ha2⟩ := kinds_agg hk1
                have hl1 := (eqCells_length _ _ _ _ h1).1
                rw [List.length_take, List.length_drop] at hl1
                have hl2 := (eqCells_length _ _ _ _ h1).2
                rw [List.length_take, List.length_drop] at hl2
                have hpos : f.offset + k1.length ≤ cs.length ∧ f.offset + k1.length ≤ ds.length ∨ k1.length = 0 := by omega
                rcases hpos with hpos | hz
                · obtain ⟨u1, p1, q1⟩ := run_part (P := P) ha1 hsz ha2 hx1 hx2 hpos.1
                  obtain ⟨u2, p2, q2⟩ := run_part (P := P) ha1 hsz ha2 hy1 hy2 hpos.2
                  have e1 := eqIn_ok n f.type k1 hk1 d (by omega) agf ha1 u1 u2 _ _ r1 q1 q2 h1
                  have e2 := ih (f.offset + k1.length) k2 r2 hk2 (by rw [List.drop_drop, List.drop_drop] at h2; exact h2)
                  simp only [Op.eqFields, hnm, ne_eq, not_false_eq_true, if_true, Sem.run_bind, p1, p2, e1, Result.andThen_ok]
                  cases r1
                  · simp
                  · simpa using e2
                · -- no cells: an empty struct
                  have ht : agf = true := by
                    cases agf with
                    | true => rfl
                    | false => have := ha2 rfl; omega
                  subst ht
                  have e0 : k1 = [] := List.eq_nil_of_length_eq_zero hz
                  subst e0
                  have p : ∀ zs : Array Value, (part f.type zs f.offset).run P X.w = .ok (.agg (zs.extract f.offset (f.offset + 0))) X.w := fun zs => by
                    simp [part, run_isAgg X.w ha1, run_size X.w hsz]
                  have q : ∀ zs : Array Value, HasR X true [] (.agg (zs.extract f.offset (f.offset + 0))) := fun zs => by
                    simp only [HasR, if_true]
                    exact ⟨_, rfl, by simp; omega, by simp [DRs]⟩
                  have h1' : eqCells [] [] [] = some r1 := by simpa using h1
                  have e1 := eqIn_ok n f.type [] hk1 d (by omega) true ha1 _ _ [] [] r1 (q xs) (q ys) h1'
                  have e2 := ih (f.offset + 0) k2 r2 hk2 (by simpa using h2)
                  simp only [Op.eqFields, hnm, ne_eq, not_false_eq_true, if_true, Sem.run_bind, p, e1, Result.andThen_ok]
                  cases r1
                  · simp
                  · simpa using e2
              · have : (size? P f.type == some k1.length) = false := by simpa using hsz
                simp [this] at hk
            · exfalso
              rcases Decidable.not_and_iff_not_or_not.1 hc with hc | hc
              · have : (f.name != "_") = false := by simpa using hc
                simp [this] at hk
              · have : (f.offset == o) = false := by simpa using hc
                simp [this] at hk
        exact key fs.toList 0 ks r h (by simpa using he)
    · cases h

theorem guard_ok {P : Program} : ∀ (n : Nat) (t : TypeId) (ks : List CK), plainKinds P n t = some ks → ∀ d, n ≤ d → P.eqGuardType d t = false
  | 0, t, ks, h => by simp [plainKinds] at h
  | n + 1, t, ks, h => by
    intro d hd
    obtain ⟨d, rfl⟩ : ∃ k, d = k + 1 := ⟨d - 1, by omega⟩
    simp only [plainKinds] at h
    split at h
    · rename_i hu; simp only [Program.eqGuardType, hu]
    · rename_i hu; simp only [Program.eqGuardType, hu]
    · rename_i hu; simp only [Program.eqGuardType, hu]
    rotate_left
    · cases h
    rename_i fs hu
    simp only [Program.eqGuardType, hu]
    by_cases hp : P.stoodInHeld t = true
    · simp [hp] at h
    · simp only [Bool.not_eq_true] at hp
      simp only [hp, cond_false] at h
      have key : ∀ (fl : List Field) (o : Nat) (ks : List CK), plainGo P (plainKinds P n) fl o = some ks → fl.any (fun f => f.name != "_" && P.eqGuardType d f.type) = false := by
        intro fl
        induction fl with
        | nil => intro o ks _; rfl
        | cons f fl ih =>
          intro o ks hk
          simp only [plainGo] at hk
          by_cases hc : (f.name != "_" && f.offset == o) = true
          · simp only [hc, cond_true, Option.bind_eq_some_iff] at hk
            obtain ⟨k1, hk1, hk⟩ := hk
            by_cases hsz : (size? P f.type == some k1.length) = true
            · simp only [hsz, cond_true, Option.bind_eq_some_iff, Option.some.injEq] at hk
              obtain ⟨k2, hk2, rfl⟩ := hk
              simp [guard_ok n f.type k1 hk1 d (by omega), ih _ _ hk2]
            · simp [hsz] at hk
          · simp [hc] at hk
      have := key fs.toList 0 ks h
      simpa using this

section
variable {P : Program} {o : Oper} {X : Cx} {a : Act} (hX : StoR X)
include hX

theorem sim_binOp {op : BinOp} {t ty : TypeId} {x y : Operand} (ho : o.op = .binOp op t x y ty) {dx dy d : D} (hx : DR X dx (a.eval x)) (hy : DR X dy (a.eval y))
    (h : bo (plainKinds P 10 t) (isAgg? P t == some true) op dx dy = some d) : Sim P o X a (fun X' u => DR X' d u ∧ X'.τ = X.τ) := by
  have fin : ∀ (ux uy : Value) (v : V), a.eval x = ux → a.eval y = uy → (eqGuard op t x y ux uy).run P X.w = .ok () X.w → d = .v v → (∀ S, VR X.w S v (vv v)) → (binOp op t ux uy).run P X.w = .ok (vv v) X.w →
      Sim P o X a (fun X' u => DR X' d u ∧ X'.τ = X.τ) := by
    intro ux uy v h1 h2 h3 h4 h5 h6
    subst h4
    refine Sim.value (X' := X) (u := vv v) ?_ (Ext.refl X) hX ⟨by simp only [DR]; exact h5 _, rfl⟩
    simp [execOp, ho, h1, h2, h3, h6]
  have geq : ∀ (q : BinOp) (k k' : IntKind) (m n : Int), (eqGuard q t x y (.int k m) (.int k' n)).run P X.w = .ok () X.w := by
    intro q k k' m n
    cases q <;> simp [eqGuard]
  have gst : ∀ (q : BinOp) (m n : ByteArray), (eqGuard q t x y (.string m) (.string n)).run P X.w = .ok () X.w := by
    intro q m n
    cases q <;> simp [eqGuard]
  unfold bo at h
  cases hs : isShift op with
  | true =>
    have hs' : op = .shl ∨ op = .shr := by cases op <;> simp [isShift] at hs ⊢
    rw [hs, cond_true] at h
    unfold boShift at h
    split at h
    · simp only [DR] at hx hy
      generalize hu : a.eval x = ux at hx
      generalize hw : a.eval y = uy at hy
      cases hx
      cases hy
      obtain ⟨v, h1, h2, h3⟩ := shiftOp_ok (P := P) (w := X.w) (t := t) (k' := _) hs' h
      exact fin _ _ v hu hw (geq _ _ _ _ _) h1 h2 h3
    · cases h
  | false =>
    rw [hs, cond_false] at h
    unfold boRest at h
    split at h
    · rename_i k m k' n
      simp only [DR] at hx hy
      generalize hu : a.eval x = ux at hx
      generalize hw : a.eval y = uy at hy
      cases hx
      cases hy
      by_cases hk : k = k'
      · subst hk
        simp at h
        obtain ⟨v, h1, h2, h3⟩ := intOp_ok (P := P) (w := X.w) (t := t) h
        exact fin _ _ v hu hw (geq _ _ _ _ _) h1 h2 h3
      · simp [hk] at h
    · simp only [DR] at hx hy
      generalize hu : a.eval x = ux at hx
      generalize hw : a.eval y = uy at hy
      cases hx
      cases hy
      obtain ⟨v, h1, h2, h3⟩ := strOp_ok (P := P) (w := X.w) (t := t) h
      exact fin _ _ v hu hw (gst _ _ _) h1 h2 h3
    · rename_i p q
      cases hg : (isAgg? P t == some true) with
      | true => rw [hg] at h; cases h
      | false =>
        rw [hg, cond_false] at h
        simp only [Option.bind_eq_some_iff] at h
        obtain ⟨ks, hks, r, hr, h⟩ := h
        obtain ⟨ag, hag, _⟩ := kinds_agg hks
        have hagf : ag = false := by
          cases ag with
          | false => rfl
          | true => rw [hag] at hg; simp at hg
        subst hagf
        simp only [DR] at hx hy
        generalize hu : a.eval x = ux at hx
        generalize hw : a.eval y = uy at hy
        cases hx
        cases hy
        have he := eqIn_ok (P := P) (X := X) 10 t ks hks Op.maxDepth (by decide) false hag (.bool p) (.bool q) _ _ r ⟨_, rfl, by simp only [DR]; exact .bool p⟩ ⟨_, rfl, by simp only [DR]; exact .bool q⟩ hr
        cases op <;> simp only [eqOp, Option.some.injEq, reduceCtorEq] at h
        · exact fin _ _ (.bool r) hu hw (by simp [eqGuard]) h.symm (fun S => .bool _) (by simp [Go.binOp, Op.equal, he, vv])
        · exact fin _ _ (.bool (!r)) hu hw (by simp [eqGuard]) h.symm (fun S => .bool _) (by simp [Go.binOp, Op.equal, he, vv])
    · rename_i cs ds
      cases hg : (isAgg? P t == some true) with
      | false => rw [hg] at h; cases h
      | true =>
        rw [hg, cond_true] at h
        simp only [Option.bind_eq_some_iff] at h
        obtain ⟨ks, hks, r, hr, h⟩ := h
        have hag : isAgg? P t = some true := by simpa using hg
        simp only [DR] at hx hy
        obtain ⟨xs, hu, h1, h2, h3⟩ := hx
        obtain ⟨ys, hw, h4, h5, h6⟩ := hy
        have hd10 : 10 ≤ P.depth := by unfold Program.depth Made.depth; omega
        have hgd := guard_ok 10 t ks hks P.depth hd10
        have he := eqIn_ok (P := P) (X := X) 10 t ks hks Op.maxDepth (by decide) true hag (.agg xs) (.agg ys) _ _ r ⟨xs, rfl, h1, h3⟩ ⟨ys, rfl, h4, h6⟩ hr
        cases op <;> simp only [eqOp, Option.some.injEq, reduceCtorEq] at h
        · exact fin _ _ (.bool r) hu hw (by simp [eqGuard, hgd]) h.symm (fun S => .bool _) (by simp [Go.binOp, Op.equal, he, vv])
        · exact fin _ _ (.bool (!r)) hu hw (by simp [eqGuard, hgd]) h.symm (fun S => .bool _) (by simp [Go.binOp, Op.equal, he, vv])
    · cases h
end

end Go.Ab
