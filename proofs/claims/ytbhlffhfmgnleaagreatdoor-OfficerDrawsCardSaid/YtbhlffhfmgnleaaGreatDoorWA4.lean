/- Operations, eleventh part: append, copy, clear, min, max as operations. -/
import Derived.Test.YtbhlffhfmgnleaaGreatDoorWA3
import Derived.Laws.IdiomRangeMap
import Derived.Lib.ConvBytes
set_option linter.all false
namespace Go.Ab
open Go
variable [Globs]

theorem lenSl_ok {X : Cx} {dx d : D} {u : Value} (hx : DR X dx u) (h : lenSl dx = some d) : ∃ ad n c, u = .slice ad n c ∧ d = .v (.int .i64 (n : Nat)) ∧ n ≤ c := by
  unfold lenSl at h
  split at h
  · simp only [Option.some.injEq] at h
    simp only [DR] at hx
    cases hx
    exact ⟨_, 0, 0, rfl, h.symm, Nat.le_refl _⟩
  · rename_i tg n xs
    simp only [Option.some.injEq] at h
    cases tg <;> simp only [DR] at hx
    · obtain ⟨c, ad, _, _, _, h1, _, _, h4, _⟩ := hx; exact ⟨ad, _, c, h1, h.symm, h4⟩
    · obtain ⟨c, ad, _, _, _, h1, _, _, h4, _⟩ := hx; exact ⟨ad, _, c, h1, h.symm, h4⟩
    · obtain ⟨ad, _, _, _, h1, _, _, h4, _⟩ := hx; exact ⟨ad, _, _, h1, h.symm, h4⟩
  · rename_i n cs
    simp only [Option.some.injEq] at h
    simp only [DR] at hx
    obtain ⟨k, b, o', us, h1, h2, h3, _⟩ := hx
    refine ⟨_, k, k, h1, ?_, Nat.le_refl _⟩
    rw [← h, h3, Nat.mul_div_cancel _ h2]
  · simp only [Option.some.injEq] at h
    simp only [DR] at hx
    obtain ⟨ad, c, h1, h2, _⟩ := hx
    exact ⟨ad, _, c, h1, h.symm, h2⟩
  · cases h

section
variable {P : Program} {o : Oper} {X : Cx} {a : Act} (hX : StoR X)
include hX

theorem sim_slice3 {t e : TypeId} {x hi mx : Operand} {lo : Option Operand} (ho : o.op = .slice t x lo (some hi) (some mx)) {dx dhi dmx d : D} {dlo : Option D} (hx : DR X dx (a.eval x))
    (hlo : match dlo, lo.map a.eval with | none, none => True | some d, some u => DR X d u | _, _ => False) (hhi : DR X dhi (a.eval hi)) (hmx : DR X dmx (a.eval mx))
    (ht : P.underlying t = some (.slice e)) {s : Nat} (hs : size? P e = some s) (h : slice3 dx dlo dhi dmx = some d) : Sim P o X a (fun X' u => DR X' d u ∧ X'.τ = X.τ) := by
  simp only [slice3, Option.bind_eq_some_iff] at h
  obtain ⟨ld, h1, n, h2, m, h3, hh, h4, l, h5, h⟩ := h
  obtain ⟨ad, n', c, h6, rfl, h7⟩ := lenSl_ok hx h1
  have hn : n = n' := by simp [natOf] at h2; exact h2.symm
  subst hn
  by_cases hc : l ≤ hh ∧ hh ≤ m ∧ m ≤ n
  · simp [hc] at h
    subst h
    obtain ⟨ik, hik⟩ := natOf_DR hmx h3
    obtain ⟨jk, hjk⟩ := natOf_DR hhi h4
    have hb : (Instr.sliceBounds true n c (lo.map a.eval) (some (a.eval hi)) (some (a.eval mx))).run P X.w = .ok (l, hh, m) X.w := by
      rcases boundOf_ok hlo h5 with ⟨_, hv, rfl⟩ | ⟨lk, hv⟩
      · rw [hv, hik, hjk]
        simp [Instr.sliceBounds, run_sliceBound, show m ≤ c by omega, hc]
      · rw [hv, hik, hjk]
        simp [Instr.sliceBounds, run_sliceBound, show m ≤ c by omega, hc]
    exact Sim.value (X' := X) (by simp [execOp, ho, h6, Instr.sliceAt, Instr.slice, run_under X.w ht, hb, run_size X.w hs]; rfl) (Ext.refl X) hX ⟨by simp only [DR], rfl⟩
  · exfalso
    rcases Decidable.not_and_iff_not_or_not.1 hc with hc | hc
    · simp [hc] at h
    · rcases Decidable.not_and_iff_not_or_not.1 hc with hc | hc <;> simp [hc] at h

omit hX in
/-- An operation behind which some rows have been frozen. -/
theorem Sim.after {X1 : Cx} {σ σ1 : Sto} {ts : List Nat} {Post : Cx → Value → Prop} (f : Froze X X1 σ σ1 ts) (h : Sim P o X1 a Post) : Sim P o X a Post := by
  intro ro next Q hn
  rw [← f.w]
  exact h ro next Q fun X' u he hs hp => hn X' u (f.ext.trans he) hs hp

omit hX in
theorem zeroValue_cells {e : TypeId} {z : List V} (hz : zero? P e = some z) : ∃ u : Value, (∀ w, (zeroValue e).run P w = .ok u w) ∧ u.cells.size = z.length ∧
    ∀ {w : World} {S : Sup} j v, z[j]? = some v → VR w S v (u.cells.getD j undef) := by
  simp only [zero?, Option.bind_eq_some_iff] at hz
  obtain ⟨i, h1, u, h2, h3⟩ := hz
  refine ⟨u, fun w => by simp [zeroValue, typeInfo, h1, h2], ?_, fun {w S} j v hj => ?_⟩
  · simpa using (ofCells_VR (w := default) (S := fun _ _ => False) h3).1.symm
  · have := (ofCells_VR (w := w) (S := S) h3).2 j v hj
    rwa [getD_toList] at this

omit hX in
theorem run_builtin {k : Call} {b : Builtin} (ho : o.op = .call k) {args : Array Operand} {ts : Array TypeId} (hk : k = { callee := .builtin b, args := args, argTypes := ts }) {w w' : World} {v : Value}
    (h : (Go.builtin b ts o.type (args.map fun | .const _ => true | _ => false) (args.map a.eval)).run P w = .ok (.value v) w') : (execOp a.eval o).run P w = .ok (.value v) w' := by
  subst hk
  simp only [execOp, ho, resolve, invoke, Sem.run_bind, Sem.run_pure, Result.andThen_ok]
  exact h

theorem sim_append_gen {σ σ1 σ' : Sto} {dx dy d : D} {ux : Value} {m b : Nat} {e : TypeId} {z : Value} {ys : List (List V)} (hx : DR X dx ux) (hτ : ∀ q ∈ refsD dx ++ refsD dy, X.τ q = σ[q]?) (hq : ∀ q, σ.length ≤ q → q < σ'.length → X.τ q = none)
    {X1 : Cx} (f : Froze X X1 σ σ1 (refsD dy)) {news : Array Value} (hn : NewsR X1.w X1.S m ys news) (hz : z.cells.size = m) (hr : AppRun P o a X1 ux m b ys.length news e z) (hy : ∀ q ∈ refsD dy, ∃ row, X.τ q = some row)
    (h : appendTo m b dx ys σ1 = some (d, σ')) :
    Sim P o X a (fun X' u => DR X' d u ∧ X'.τ = fun q => if q ∈ refsD dx ++ refsD dy ∨ (σ.length ≤ q ∧ q < σ'.length) then σ'[q]? else X.τ q) ∧ σ.length ≤ σ'.length ∧
      ∀ q, q ∉ refsD dx ++ refsD dy → q < σ.length → σ'[q]? = σ[q]? := by
  have hx1 := DR.ext hX f.ext hx
  have hτ1 : ∀ q ∈ refsD dx, X1.τ q = σ1[q]? := fun q hq => by
    by_cases hq' : q ∈ refsD dy
    · exact f.ins q hq'
    · rw [f.out q hq', hτ q (by simp [hq]), f.keep q hq']
  have hlt : ∀ q ∈ refsD dy, q < σ.length := fun q hq => by
    obtain ⟨row, h1⟩ := hy q hq
    rw [hτ q (by simp [hq])] at h1
    exact (List.getElem?_eq_some_iff.1 h1).1
  have hq1 : σ1.length < σ'.length → X1.τ σ1.length = none := fun hl => by
    rw [f.len] at hl ⊢
    rw [f.out _ fun hh => absurd (hlt _ hh) (by omega)]
    exact hq _ (Nat.le_refl _) hl
  obtain ⟨s1, s2, s3⟩ := append_ok f.sto hx1 hτ1 hq1 hn hz hr h
  refine ⟨Sim.after f (s1.mono fun X' u hp => ⟨hp.1, ?_⟩), by rw [← f.len]; exact s2, fun q hq' hl => ?_⟩
  · rw [hp.2]
    funext q
    rw [f.len]
    by_cases h1 : q ∈ refsD dx ∨ (σ.length ≤ q ∧ q < σ'.length)
    · rw [if_pos h1, if_pos (by rcases h1 with h1 | h1; exact .inl (by simp [h1]); exact .inr h1)]
    · rw [if_neg h1]
      by_cases h2 : q ∈ refsD dy
      · rw [if_pos (.inl (by simp [h2])), f.ins q h2]
        have hl := hlt q h2
        rw [s3 q (fun hh => h1 (.inl hh)) (by rw [f.len]; exact hl)]
      · rw [if_neg (by
          rintro (hh | hh)
          · rcases List.mem_append.1 hh with hh | hh
            · exact h1 (.inl hh)
            · exact h2 hh
          · exact h1 (.inr hh)), f.out q h2]
  · rw [List.mem_append, not_or] at hq'
    rw [s3 q hq'.1 (by rw [f.len]; exact hl), f.keep q hq'.2]

theorem sim_append {σ σ' : Sto} {k : Call} (ho : o.op = .call k) {x y : Operand} {t t2 e : TypeId} (hk : k = { callee := .builtin .append, args := #[x, y], argTypes := #[t, t2] }) {dx dy d : D}
    (hx : DR X dx (a.eval x)) (hy : DR X dy (a.eval y)) (ht : P.underlying t = some (.slice e)) {m b : Nat} (hm : size? P e = some m) (hb : bytes? P e = some b) {z : List V} (hz : zero? P e = some z) (hzm : z.length = m)
    {d2 : TypeDesc} (ht2 : P.underlying t2 = some d2) (hd2 : ∀ k, d2 ≠ .int k) (hτ : ∀ q ∈ refsD dx ++ refsD dy, X.τ q = σ[q]?) (hq : ∀ q, σ.length ≤ q → q < σ'.length → X.τ q = none) (h : ap m b dx dy σ = some (d, σ')) :
    Sim P o X a (fun X' u => DR X' d u ∧ X'.τ = fun q => if q ∈ refsD dx ++ refsD dy ∨ (σ.length ≤ q ∧ q < σ'.length) then σ'[q]? else X.τ q) ∧ σ.length ≤ σ'.length ∧
      ∀ q, q ∉ refsD dx ++ refsD dy → q < σ.length → σ'[q]? = σ[q]? := by
  simp only [ap, Option.bind_eq_some_iff] at h
  obtain ⟨⟨ys, σ1⟩, h1, h⟩ := h
  obtain ⟨X1, f, hs⟩ := elemsW_ok (P := P) hX hy (fun q hq => hτ q (by simp [hq])) h1
  obtain ⟨u, z1, z2, z3⟩ := zeroValue_cells hz
  obtain ⟨news, n1, n2, n3⟩ := hs.first X1.w rfl ys.length (Nat.le_refl _)
  have n4 : (Builtin.firstCells m ys.length (a.eval y)).run P X1.w.drew = .ok news X1.w.drew := by
    obtain ⟨news', m1, m2, m3⟩ := hs.first X1.w.drew rfl ys.length (Nat.le_refl _)
    obtain ⟨w0, hw0, e0⟩ : ∃ w0 : World, w0.heap = X1.w.heap ∧ w0 = X1.w := ⟨_, rfl, rfl⟩
    -- what is read does not hang on the count of draws
    have same : ∀ (u : Value) (k : Nat) (c c' : Array Value), (Builtin.firstCells m k u).run P X1.w = .ok c X1.w → (Builtin.firstCells m k u).run P X1.w.drew = .ok c' X1.w.drew → c = c' := by
      intro u k c c' h1 h2
      unfold Builtin.firstCells at h1 h2
      split at h1
      · rename_i b' _ _
        have key : ∀ (n i : Nat) (acc : Array Value) (c c' : Array Value), (Go.loadCellsFrom b' i n acc).run P X1.w = .ok c X1.w → (Go.loadCellsFrom b' i n acc).run P X1.w.drew = .ok c' X1.w.drew → c = c' := by
          intro n
          induction n with
          | zero => intro i acc c c' h1 h2; simp [Go.loadCellsFrom] at h1 h2; rw [← h1, ← h2]
          | succ n ih =>
            intro i acc c c' h1 h2
            simp only [Go.loadCellsFrom, Sem.run_bind, run_load] at h1 h2
            have hc : X1.w.drew.cell? (b'.add i) = X1.w.cell? (b'.add i) := rfl
            rw [hc] at h2
            cases hcell : X1.w.cell? (b'.add i) with
            | some v =>
              rw [hcell] at h1 h2
              simp only [Result.andThen_ok] at h1 h2
              exact ih _ _ _ _ h1 h2
            | none =>
              rw [hcell] at h1 h2
              have hfar : World.farLoad P X1.w.drew (b'.add i) (Go.Mode.plain == Go.Mode.atomic) = World.farLoad P X1.w (b'.add i) (Go.Mode.plain == Go.Mode.atomic) := rfl
              simp only at h1 h2
              rw [hfar] at h2
              cases hfl : World.farLoad P X1.w (b'.add i) (Go.Mode.plain == Go.Mode.atomic) with
              | ok p =>
                rw [hfl] at h1 h2
                obtain ⟨v, _⟩ := p
                simp only [Result.andThen_ok] at h1 h2
                exact ih _ _ _ _ h1 h2
              | error e => rw [hfl] at h1; cases h1
        exact key _ _ _ _ _ h1 h2
      · simp at h1 h2; first | rw [h1, h2] | rw [← h1, ← h2]
      · simp at h1 h2; first | rw [h1, h2] | rw [← h1, ← h2]
      · cases h1
    rw [same _ _ _ _ n1 m1]
    exact m1
  refine sim_append_gen hX hx hτ hq f (news := news) ⟨n2, hs.all, fun i cs hi j v hj => n3 i cs hi (List.getElem?_eq_some_iff.1 hi).1 j v hj⟩ (z := u) (e := e) (by rw [z2, hzm]) ⟨fun base sLen sCap w' hu hc hst => ?_, fun base sLen sCap olds hu hc hr1 hr2 ho' => ?_⟩ (fun q hq => DR.refs hy q hq) h
  · refine run_builtin ho hk ?_
    have := run_app_in (ty := o.type) (base := base) (w := X1.w) (w' := w') ht hm ht2 hd2 (hs.len _) hc n1 (by cases base <;> exact hst)
    simp [Go.builtin, hu, this]
  · refine run_builtin ho hk ?_
    rw [hu] at ho'
    have := run_app_grow (ty := o.type) (w := X1.w) ht hm hb z1 ht2 hd2 hs.len hc hr1 hr2 n4 ho'
    simp [Go.builtin, hu, this]

omit hX in
theorem room_ok {b n : Nat} (h : room b n = true) : n * b ≤ 2 ^ 46 ∧ n ≤ 2 ^ 46 := by
  simp only [room, Bool.and_eq_true, decide_eq_true_eq] at h
  exact h

omit hX in
theorem appendTo_room {m b : Nat} {s d : D} {ys : List (List V)} {σ σ' : Sto} (h : appendTo m b s ys σ = some (d, σ')) : ys.length * b ≤ 2 ^ 46 ∧ ys.length ≤ 2 ^ 46 := by
  have le : ∀ k, room b (k + ys.length) = true → ys.length * b ≤ 2 ^ 46 ∧ ys.length ≤ 2 ^ 46 := fun k hk => by
    obtain ⟨h1, h2⟩ := room_ok hk
    exact ⟨Nat.le_trans (Nat.mul_le_mul_right _ (by omega)) h1, by omega⟩
  unfold appendTo at h
  split at h
  · cases hc : (decide (0 < m) && room b ys.length) with
    | false => simp [hc] at h
    | true => simp only [Bool.and_eq_true] at hc; exact room_ok hc.2
  · rename_i m' xs
    cases hc : (m' == m && decide (0 < m) && room b (xs.length + ys.length)) with
    | false => simp [hc] at h
    | true => simp only [Bool.and_eq_true] at hc; exact le _ hc.2
  · rename_i r g m' off n
    simp only [Option.bind_eq_some_iff] at h
    obtain ⟨xs, h1, h⟩ := h
    cases hc : (m' == m && room b (xs.length + ys.length)) with
    | false => simp [hc] at h
    | true => simp only [Bool.and_eq_true] at hc; exact le _ hc.2
  · cases h

theorem sim_appendZ {σ σ' : Sto} {k : Call} (ho : o.op = .call k) {x y : Operand} {t t2 e : TypeId} (hk : k = { callee := .builtin .append, args := #[x, y], argTypes := #[t, t2] }) {dx dy d : D}
    (hx : DR X dx (a.eval x)) (hy : DR X dy (a.eval y)) (ht : P.underlying t = some (.slice e)) {m b : Nat} (hm : size? P e = some m) (hb : bytes? P e = some b) {z : List V} (hz : zero? P e = some z) (hzm : z.length = m)
    {ik : IntKind} (ht2 : P.underlying t2 = some (.int ik)) (hτ : ∀ q ∈ refsD dx ++ refsD dy, X.τ q = σ[q]?) (hq : ∀ q, σ.length ≤ q → q < σ'.length → X.τ q = none) (h : apZ m b z dx dy σ = some (d, σ')) :
    Sim P o X a (fun X' u => DR X' d u ∧ X'.τ = fun q => if q ∈ refsD dx ++ refsD dy ∨ (σ.length ≤ q ∧ q < σ'.length) then σ'[q]? else X.τ q) ∧ σ.length ≤ σ'.length ∧
      ∀ q, q ∉ refsD dx ++ refsD dy → q < σ.length → σ'[q]? = σ[q]? := by
  simp only [apZ, Option.bind_eq_some_iff] at h
  obtain ⟨n, h1, h⟩ := h
  obtain ⟨jk, hjk⟩ := natOf_DR hy h1
  have hr0 : refsD dy = [] := by
    cases dy <;> simp [natOf] at h1
    rfl
  obtain ⟨u, z1, z2, z3⟩ := zeroValue_cells hz
  have hroom := appendTo_room h
  rw [List.length_replicate] at hroom
  rw [hr0, List.append_nil] at hτ ⊢
  have hq1 : σ.length < σ'.length → X.τ σ.length = none := fun hl => hq _ (Nat.le_refl _) hl
  have hnews : NewsR X.w X.S m (List.replicate n z) (if n * m = 0 then #[] else Builtin.zeroCells u.cells n) := by
    refine ⟨?_, fun cs hcs => by rw [List.eq_of_mem_replicate hcs, hzm], fun i cs hi j v hj => ?_⟩
    · rw [List.length_replicate]
      by_cases h0 : n * m = 0
      · rw [if_pos h0, h0]; rfl
      · rw [if_neg h0, size_zeroCells, z2, hzm]
    · have hi' := List.getElem?_eq_some_iff.1 hi
      obtain ⟨hl, he⟩ := hi'
      rw [List.length_replicate] at hl
      rw [List.getElem_replicate] at he
      subst he
      have hjl : j < m := by rw [← hzm]; exact (List.getElem?_eq_some_iff.1 hj).1
      have h0 : ¬ n * m = 0 := by
        intro h0
        rcases Nat.mul_eq_zero.1 h0 with h0 | h0 <;> omega
      rw [if_neg h0]
      have := z3 (w := X.w) (S := X.S) j v hj
      have hsz : (Builtin.zeroCells u.cells n).size = n * m := by rw [size_zeroCells, z2, hzm]
      have hlt : i * m + j < n * m := index_lt hl hjl
      have e : (Builtin.zeroCells u.cells n).getD (i * m + j) undef = u.cells.getD j undef := by
        rw [Array.getD_eq_getD_getElem?, Array.getElem?_eq_getElem (by rw [hsz]; exact hlt)]
        have hju : j < u.cells.size := by rw [z2, hzm]; exact hjl
        have hmod : (i * m + j) % u.cells.size = j := by rw [z2, hzm, Nat.mul_comm, Nat.mul_add_mod, Nat.mod_eq_of_lt hjl]
        have e1 : u.cells[j]! = u.cells[j] := getElem!_pos u.cells _ hju
        simp [Builtin.zeroCells, hmod, hju]
      rw [e]
      exact this
  refine append_ok (P := P) (o := o) (a := a) (e := e) hX hx hτ hq1 hnews (by rw [z2, hzm]) ⟨fun base sLen sCap w' hu hc hst => ?_, fun base sLen sCap olds hu hc hr1 hr2 ho' => ?_⟩ h
  · refine run_builtin ho hk ?_
    rw [List.length_replicate] at hc
    have := run_appZ_in (ty := o.type) (base := base) (w := X.w) (w' := w') (jk := jk) ht hm hb z1 ht2 hc hroom.1 hroom.2 (by cases base <;> exact hst)
    simp [Go.builtin, hu, hjk, this]
  · refine run_builtin ho hk ?_
    rw [List.length_replicate] at hc hr1 hr2
    rw [hu] at ho'
    have := run_appZ_grow (ty := o.type) (w := X.w) (jk := jk) ht hm hb z1 ht2 hc hr1 hr2 ho'
    simp [Go.builtin, hu, hjk, this]
end

end Go.Ab

/- Operations, twelfth part: clear, min, max, maps. -/
namespace Go.Ab
open Go
variable [Globs]

theorem asVs_eq : ∀ {ds : List D} {vs : List V}, asVs ds = some vs → ds = vs.map .v
  | [], vs, h => by simp only [asVs, Option.some.injEq] at h; subst h; rfl
  | d :: ds, vs, h => by
    cases d <;> simp only [asVs, Option.bind_eq_some_iff, Option.some.injEq, reduceCtorEq] at h
    obtain ⟨l, h1, rfl⟩ := h
    rw [asVs_eq h1]
    rfl

theorem cells_has {X : Cx} {d : D} {cs : List D} {u : Value} (hd : DR X d u) (h : d.cells? = some cs) : HasR X (isAggD d) cs u := by
  cases d <;> simp only [D.cells?, Option.some.injEq, reduceCtorEq] at h <;> subst h
  case agg cs =>
    simp only [DR] at hd
    obtain ⟨xs, h1, h2, _, h3⟩ := hd
    exact ⟨xs, h1, h2, h3⟩
  all_goals exact ⟨_, rfl, hd⟩

theorem HasR_v {X : Cx} {ag : Bool} {k : List V} {u : Value} : HasR X ag (k.map .v) u ↔ CellsR X.w X.S ag k u := by
  cases ag with
  | true =>
    simp only [HasR, CellsR, if_true, List.length_map, DRs_v]
  | false =>
    simp only [HasR, CellsR]
    constructor
    · rintro ⟨c, h1, h2⟩
      cases k with
      | nil => simp at h1
      | cons v k =>
        simp at h1
        obtain ⟨rfl, rfl⟩ := h1
        exact ⟨v, rfl, by simpa only [DR] using h2⟩
    · rintro ⟨v, rfl, h2⟩
      exact ⟨.v v, rfl, by simpa only [DR] using h2⟩

theorem keyOf_ok {X : Cx} {ks : List CK} {kag : Bool} {key : D} {k : List V} {u : Value} (hd : DR X key u) (h : keyOf ks kag key = some k) :
    CellsR X.w X.S kag k u ∧ ∃ r, eqCells ks (k.map .v) (k.map .v) = some r := by
  unfold keyOf at h
  cases hk : (isAggD key == kag) with
  | false => simp [hk] at h
  | true =>
    simp only [hk, cond_true, Option.bind_eq_some_iff] at h
    obtain ⟨kc, h1, r, h2, h3⟩ := h
    have := asVs_eq h3
    subst this
    have hk' : isAggD key = kag := by simpa using hk
    subst hk'
    exact ⟨HasR_v.1 (cells_has hd h1), r, h2⟩

/-! ### Keys -/
theorem CellsR_single {w : World} {S : Sup} {k : List V} {u : Value} (h : CellsR w S false k u) : ∃ v, k = [v] ∧ VR w S v u := by
  simpa [CellsR] using h

theorem eqCells_one {k : CK} {x y : D} {r : Bool} (h : eqCells [k] [x] [y] = some r) : eqCell k x y = some r := by
  simp only [eqCells, Option.bind_eq_some_iff, Option.some.injEq] at h
  obtain ⟨b, h1, c', h2, rfl⟩ := h
  subst h2
  simpa using h1

/-- A key of plain cells is no reason to panic. -/
theorem checkKey_ok {P : Program} {X : Cx} {e : Bool} : ∀ (n : Nat) (t : TypeId) (ks : List CK), plainKinds P n t = some ks → ∀ d, n ≤ d → ∀ (ag : Bool), isAgg? P t = some ag → ∀ (x : Value) (cs : List D),
    HasR X ag cs x → cs.length = ks.length → (Instr.checkKey e d t x).run P X.w = .ok () X.w
  | 0, t, ks, h => by simp [plainKinds] at h
  | n + 1, t, ks, h => by
    intro d hd ag hag x cs hx hl
    obtain ⟨d, rfl⟩ : ∃ k, d = k + 1 := ⟨d - 1, by omega⟩
    simp only [plainKinds] at h
    split at h
    · rename_i hu
      simp [Instr.checkKey, run_under X.w hu]
    · rename_i hu
      simp [Instr.checkKey, run_under X.w hu]
    · rename_i hu
      simp [Instr.checkKey, run_under X.w hu]
    · rename_i fs hu
      have : ag = true := by simp [isAgg?, hu] at hag; exact hag
      subst this
      simp only [HasR, if_true] at hx
      obtain ⟨xs, rfl, hx1, hx2⟩ := hx
      by_cases hp : P.stoodInHeld t = true
      · simp [hp] at h
      · simp only [Bool.not_eq_true] at hp
        simp only [hp, cond_false] at h
        have key : ∀ (fl : List Field) (o : Nat) (ks : List CK), plainGo P (plainKinds P n) fl o = some ks → o + ks.length = cs.length →
            (forIn fl PUnit.unit fun f _ => if f.name ≠ "_" then (do Instr.checkKey e d f.type (← part f.type xs f.offset); pure (ForInStep.yield PUnit.unit) : Sem (ForInStep PUnit)) else pure (ForInStep.yield PUnit.unit)).run P X.w = .ok PUnit.unit X.w := by
          intro fl
          induction fl with
          | nil => intro o ks _ _; simp
          | cons f fl ih =>
            intro o ks hk hlen
            simp only [plainGo] at hk
            by_cases hc : f.name ≠ "_" ∧ f.offset = o
            · obtain ⟨hnm, rfl⟩ := hc
              have hnm' : (f.name != "_") = true := by simpa using hnm
              simp only [hnm', beq_self_eq_true, Bool.and_self, cond_true, Option.bind_eq_some_iff] at hk
              obtain ⟨k1, hk1, hk⟩ := hk
              by_cases hsz : size? P f.type = some k1.length
              · simp only [hsz, beq_self_eq_true, cond_true, Option.bind_eq_some_iff, Option.some.injEq] at hk
                obtain ⟨k2, hk2, rfl⟩ := hk
                obtain ⟨agf, ha1, ha2⟩ := kinds_agg hk1
                rw [List.length_append] at hlen
                obtain ⟨u1, p1, q1⟩ := run_part (P := P) (off := f.offset) ha1 hsz ha2 hx1 hx2 (by omega)
                have e1 := checkKey_ok (e := e) n f.type k1 hk1 d (by omega) agf ha1 u1 _ q1 (by rw [List.length_take, List.length_drop]; omega)
                have e2 := ih (f.offset + k1.length) k2 hk2 (by omega)
                simp only [List.forIn_cons, Sem.run_bind, hnm, ne_eq, not_false_eq_true, if_true, p1, e1, Result.andThen_ok]
                simpa using e2
              · have : (size? P f.type == some k1.length) = false := by simpa using hsz
                simp [this] at hk
            · exfalso
              rcases Decidable.not_and_iff_not_or_not.1 hc with hc | hc
              · have : (f.name != "_") = false := by simpa using hc
                simp [this] at hk
              · have : (f.offset == o) = false := by simpa using hc
                simp [this] at hk
        have := key fs.toList 0 ks h (by omega)
        simp only [Instr.checkKey, Sem.run_bind, run_under X.w hu, Result.andThen_ok]
        rw [← Array.forIn_toList, this]
        simp
    · cases h

/-- An entry of a map's row. -/
def EntR (X : Cx) (ka va : Bool) (e : List V × List D) (m : MapEntry) : Prop := CellsR X.w X.S ka e.1 m.key ∧ PkR X va e.2 m.val

theorem posOf_lt {ks : List CK} {key : List V} : ∀ {es : List (List V × List D)} {i : Nat}, posOf ks key es = some (some i) → ∃ e, es[i]? = some e ∧ eqCells ks (key.map .v) (e.1.map .v) = some true
  | [], i, h => by simp [posOf] at h
  | e :: es, i, h => by
    simp only [posOf, Option.bind_eq_some_iff] at h
    obtain ⟨b, h1, h⟩ := h
    cases b with
    | true =>
      simp only [cond_true, Option.some.injEq] at h
      subst h
      exact ⟨e, rfl, h1⟩
    | false =>
      simp only [cond_false, Option.bind_eq_some_iff, Option.some.injEq] at h
      obtain ⟨r, h2, h3⟩ := h
      cases r with
      | none => simp at h3
      | some j =>
        simp only [Option.map_some, Option.some.injEq] at h3
        subst h3
        obtain ⟨e', h4, h5⟩ := posOf_lt h2
        exact ⟨e', by simpa using h4, h5⟩

/-- How the search for a key ends. -/
def Found (ents : List MapEntry) : Option Nat → Option (Nat × Value) → Nat → Prop
  | none, r, _ => r = none
  | some i, r, k => ∃ m, ents[i]? = some m ∧ r = some (k + i, m.val)

theorem findNow_ok {X : Cx} {ka va : Bool} {d : TypeDesc} {k : CK} {v : V} {u : Value} (hk : VR X.w X.S v u) (hka : ka = false)
    (same : ∀ (v' : V) (u' : Value) (r : Bool), VR X.w X.S v' u' → eqCell k (.v v) (.v v') = some r → Instr.sameNow d u u' = some r) :
    ∀ (es : List (List V × List D)) (ents : List MapEntry) (i : Nat) (p : Option Nat), ents.length = es.length → (∀ (i : Nat) (e : List V × List D), es[i]? = some e → ∃ m : MapEntry, ents[i]? = some m ∧ EntR X ka va e m) →
      posOf [k] [v] es = some p → ∃ r, Instr.findNow d u ents i = some r ∧ Found ents p r i
  | [], [], i, p, _, _, h => by
    simp only [posOf, Option.some.injEq] at h
    subst h
    exact ⟨none, rfl, rfl⟩
  | [], m :: ents, i, p, hl, _, h => by simp at hl
  | e :: es, [], i, p, hl, _, h => by simp at hl
  | e :: es, m :: ents, i, p, hl, hm, h => by
    simp only [posOf, Option.bind_eq_some_iff] at h
    obtain ⟨b, h1, h⟩ := h
    obtain ⟨m', h2, h3, h4⟩ := hm 0 e rfl
    simp only [List.getElem?_cons_zero, Option.some.injEq] at h2
    subst h2
    subst hka
    obtain ⟨v', hv', h3⟩ := CellsR_single h3
    rw [hv'] at h1
    have h1' := same v' _ b h3 (eqCells_one h1)
    cases b with
    | true =>
      simp only [cond_true, Option.some.injEq] at h
      subst h
      exact ⟨some (i, m.val), by simp [Instr.findNow, h1'], m, rfl, rfl⟩
    | false =>
      simp only [cond_false, Option.bind_eq_some_iff, Option.some.injEq] at h
      obtain ⟨q, h5, h6⟩ := h
      obtain ⟨r, h7, h8⟩ := findNow_ok hk rfl same es ents (i + 1) q (by simpa using hl) (fun j e' he' => hm (j + 1) e' he') h5
      refine ⟨r, by simp [Instr.findNow, h1', h7], ?_⟩
      subst h6
      cases q with
      | none => exact h8
      | some j =>
        obtain ⟨m', h9, rfl⟩ := h8
        exact ⟨m', h9, by simp; omega⟩

theorem findAsking_ok {P : Program} {X : Cx} {ka va : Bool} {kt : TypeId} {ks : List CK} (hks : plainKinds P 10 kt = some ks) (hka : isAgg? P kt = some ka) {key : List V} {u : Value} (hk : CellsR X.w X.S ka key u) :
    ∀ (es : List (List V × List D)) (ents : List MapEntry) (i : Nat) (p : Option Nat), ents.length = es.length → (∀ (i : Nat) (e : List V × List D), es[i]? = some e → ∃ m : MapEntry, ents[i]? = some m ∧ EntR X ka va e m) →
      posOf ks key es = some p → ∃ r, (Instr.findAsking kt u ents i).run P X.w = .ok r X.w ∧ Found ents p r i
  | [], [], i, p, _, _, h => by
    simp only [posOf, Option.some.injEq] at h
    subst h
    exact ⟨none, by simp [Instr.findAsking], rfl⟩
  | [], m :: ents, i, p, hl, _, h => by simp at hl
  | e :: es, [], i, p, hl, _, h => by simp at hl
  | e :: es, m :: ents, i, p, hl, hm, h => by
    simp only [posOf, Option.bind_eq_some_iff] at h
    obtain ⟨b, h1, h⟩ := h
    obtain ⟨m', h2, h3, h4⟩ := hm 0 e rfl
    simp only [List.getElem?_cons_zero, Option.some.injEq] at h2
    subst h2
    have h1' := eqIn_ok (P := P) (X := X) 10 kt ks hks Op.maxDepth (by decide) ka hka u m.key _ _ b (HasR_v.2 hk) (HasR_v.2 h3) h1
    have h1'' : (Op.equal kt u m.key).run P X.w = .ok b X.w := h1'
    cases b with
    | true =>
      simp only [cond_true, Option.some.injEq] at h
      subst h
      exact ⟨some (i, m.val), by simp [Instr.findAsking, h1''], m, rfl, rfl⟩
    | false =>
      simp only [cond_false, Option.bind_eq_some_iff, Option.some.injEq] at h
      obtain ⟨q, h5, h6⟩ := h
      obtain ⟨r, h7, h8⟩ := findAsking_ok hks hka hk es ents (i + 1) q (by simpa using hl) (fun j e' he' => hm (j + 1) e' he') h5
      refine ⟨r, by simp [Instr.findAsking, h1'', h7], ?_⟩
      subst h6
      cases q with
      | none => exact h8
      | some j =>
        obtain ⟨m', h9, rfl⟩ := h8
        exact ⟨m', h9, by simp; omega⟩

theorem findKey_ok {P : Program} {X : Cx} {ka va : Bool} {kt : TypeId} {ks : List CK} (hks : plainKinds P 10 kt = some ks) (hka : isAgg? P kt = some ka) {key : List V} {u : Value} (hk : CellsR X.w X.S ka key u)
    {es : List (List V × List D)} {ents : List MapEntry} {p : Option Nat} (hl : ents.length = es.length) (hm : ∀ (i : Nat) (e : List V × List D), es[i]? = some e → ∃ m : MapEntry, ents[i]? = some m ∧ EntR X ka va e m)
    (h : posOf ks key es = some p) : ∃ r, (Instr.findKey kt u ents).run P X.w = .ok r X.w ∧ Found ents p r 0 := by
  cases es with
  | nil =>
    cases ents with
    | cons m ents => simp at hl
    | nil =>
      simp only [posOf, Option.some.injEq] at h
      subst h
      have : ∃ dd, P.underlying kt = some dd := by
        simp only [isAgg?, Option.bind_eq_some_iff] at hka
        exact ⟨_, hka.choose_spec.1⟩
      obtain ⟨dd, hd⟩ := this
      exact ⟨none, by simp [Instr.findKey, run_under X.w hd, Instr.findNow], rfl⟩
  | cons e0 es0 =>
  have basic : ∀ (d : TypeDesc) (k : CK), P.underlying kt = some d → ks = [k] → ka = false → (∀ (v v' : V) (u u' : Value) (r : Bool), VR X.w X.S v u → VR X.w X.S v' u' → eqCell k (.v v) (.v v') = some r → Instr.sameNow d u u' = some r) →
      ∃ r, (Instr.findKey kt u ents).run P X.w = .ok r X.w ∧ Found ents p r 0 := by
    intro d k hd e1 e2 same
    subst e1 e2
    obtain ⟨v, e3, hv⟩ := CellsR_single hk
    subst e3
    obtain ⟨r, h1, h2⟩ := findNow_ok hv rfl (fun v' u' r hv' he => same v v' u u' r hv hv' he) _ ents 0 p hl hm h
    exact ⟨r, by simp [Instr.findKey, run_under X.w hd, h1], h2⟩
  have hks0 := hks
  simp only [plainKinds] at hks
  split at hks
  · rename_i ik hu
    simp only [Option.some.injEq] at hks
    refine basic _ _ hu hks.symm (by simp [isAgg?, hu] at hka; exact hka) ?_
    intro v v' u u' r hv hv' he
    unfold eqCell at he
    split at he <;> try (first | (rename_i hh; cases hh; done) | (cases he; done))
    · rename_i k a k' b _ e1 e2
      cases e1
      cases e2
      cases hv
      cases hv'
      by_cases hkk : k = k'
      · subst hkk
        simp at he
        simp [Instr.sameNow, he]
      · simp [hkk] at he
    all_goals (rename_i e1 _ _; cases e1)
  · rename_i hu
    simp only [Option.some.injEq] at hks
    refine basic _ _ hu hks.symm (by simp [isAgg?, hu] at hka; exact hka) ?_
    intro v v' u u' r hv hv' he
    cases hv <;> simp [eqCell] at he
    cases hv' <;> simp [eqCell] at he
    simp [Instr.sameNow, he]
  · rename_i hu
    simp only [Option.some.injEq] at hks
    refine basic _ _ hu hks.symm (by simp [isAgg?, hu] at hka; exact hka) ?_
    intro v v' u u' r hv hv' he
    cases hv <;> simp [eqCell] at he
    cases hv' <;> simp [eqCell] at he
    simp only [Instr.sameNow, beq_toListBytes, he]
  · rename_i fs hu
    have : ∃ m ents', ents = m :: ents' := by
      cases ents with
      | nil => simp at hl
      | cons m ents' => exact ⟨m, ents', rfl⟩
    obtain ⟨m, ents', rfl⟩ := this
    have hn : Instr.findNow (.struct fs) u (m :: ents') 0 = none := by
      simp [Instr.findNow, Instr.sameNow]
    obtain ⟨r, h1, h2⟩ := findAsking_ok hks0 hka hk _ _ 0 p hl hm h
    exact ⟨r, by simp [Instr.findKey, run_under X.w hu, hn, h1], h2⟩
  · cases hks


theorem pack_has {X : Cx} {ag : Bool} {cs : List V} {d : D} {u : Value} (hc : CellsR X.w X.S ag cs u) (h : packD ag (cs.map ofV) = some d) : DR X d u := by
  cases ag with
  | true =>
    simp only [packD, cond_true, Option.some.injEq] at h
    subst h
    simp only [CellsR, if_true] at hc
    obtain ⟨xs, h1, h2, h3⟩ := hc
    simp only [DR]
    refine ⟨xs, h1, by simpa using h2, fun j hj => ?_, DRs_ofV.2 h3⟩
    exact (h3 j cs[j] (List.getElem?_eq_getElem (by omega))).one
  | false =>
    obtain ⟨v, h1, h2⟩ := CellsR_single hc
    subst h1
    simp only [packD, cond_false, List.map_cons, List.map_nil, Option.some.injEq] at h
    subst h
    exact DR_ofV.2 h2

/-- The zero value of a type whose shape is known. -/
theorem zero_has {P : Program} {w : World} {S : Sup} {t : TypeId} {z : List V} {ag : Bool} (hz : zero? P t = some z) (hag : zeroAg? P t = some ag) : ∃ u, (zeroValue t).run P w = .ok u w ∧ CellsR w S ag z u := by
  simp only [zero?, Option.bind_eq_some_iff] at hz
  obtain ⟨i, h1, u, h2, h3⟩ := hz
  simp only [zeroAg?, h1, h2, Option.bind_some] at hag
  refine ⟨u, by simp [zeroValue, typeInfo, h1, h2], ?_⟩
  obtain ⟨h4, h5⟩ := ofCells_VR (w := w) (S := S) h3
  split at hag
  · rename_i cs
    simp only [Option.some.injEq] at hag
    subst hag
    simp only [CellsR, if_true]
    refine ⟨cs, rfl, by simpa [Value.cells] using h4.symm, fun j v hj => ?_⟩
    have := h5 j v hj
    rwa [getD_toList] at this
  · simp only [Option.some.injEq] at hag
    subst hag
    rename_i hne
    have hc : u.cells = #[u] := by cases u <;> first | rfl | exact absurd rfl (hne _)
    rw [hc] at h3 h4 h5
    simp only [CellsR]
    match z, h4 with
    | [v], _ => exact ⟨v, rfl, h5 0 v rfl⟩

section
variable {P : Program} {o : Oper} {X : Cx} {a : Act} (hX : StoR X)
include hX

theorem sim_lookup {σ : Sto} {t kt e : TypeId} {x k : Operand} {ok : Bool} (ho : o.op = .lookup t x k ok) {dm dk d : D} (hm : DR X dm (a.eval x)) (hk : DR X dk (a.eval k)) (ht : P.underlying t = some (.map kt e))
    {ks : List CK} (hks : plainKinds P 10 kt = some ks) {kag : Bool} (hka : isAgg? P kt = some kag) {z : List V} (hz : zero? P e = some z) {ag : Bool} (hag : zeroAg? P e = some ag) (hτ : ∀ r ∈ rowsOf dm, X.τ r = σ[r]?)
    (h : lk ks kag z ag dm dk ok σ = some d) : Sim P o X a (fun X' u => DR X' d u ∧ X'.τ = X.τ) := by
  simp only [lk, Option.bind_eq_some_iff, Option.some.injEq] at h
  obtain ⟨key, h1, res, h2, d', h3, h4⟩ := h
  obtain ⟨hkey, r0, hr0⟩ := keyOf_ok hk h1
  have hlen : (key.map D.v).length = ks.length := (eqCells_length _ _ _ _ hr0).1
  have hck : ∀ em, (Instr.checkKey em 10000 kt (a.eval k)).run P X.w = .ok () X.w := fun em => checkKey_ok 10 kt ks hks 10000 (by decide) kag hka _ _ (HasR_v.2 hkey) hlen
  obtain ⟨uz, hz1, hz2⟩ := zero_has (P := P) (w := X.w) (S := X.S) hz hag
  -- what is found
  suffices hh : ∃ u, (Instr.lookup t (a.eval x) (a.eval k) ok).run P X.w = .ok (if ok then .tuple #[u, .bool res.isSome] else u) X.w ∧ DR X d' u by
    obtain ⟨u, hrun, hd'⟩ := hh
    refine Sim.value (X' := X) (u := if ok then .tuple #[u, .bool res.isSome] else u) (by simp [execOp, ho, hrun]) (Ext.refl X) hX ⟨?_, rfl⟩
    subst h4
    cases ok with
    | false => simpa using hd'
    | true =>
      simp only [cond_true, if_true, DR]
      refine ⟨_, rfl, rfl, ?_⟩
      simp only [DRs, DR]
      exact ⟨by simpa using hd', by simpa using VR.bool _, trivial⟩
  have hmiss : ∀ (ents : List MapEntry) (em : Bool), (Instr.findKey kt (a.eval k) ents).run P X.w = .ok none X.w → True := fun _ _ _ => trivial
  unfold lkPos at h2
  split at h2
  · simp only [Option.some.injEq] at h2
    subst h2
    simp only [DR] at hm
    generalize hu : a.eval x = ux at hm
    cases hm
    obtain ⟨r, hf, hfd⟩ := findKey_ok (X := X) (va := false) hks hka hkey (es := []) (ents := []) (p := none) rfl (by simp) rfl
    have : r = none := hfd
    subst this
    refine ⟨uz, ?_, pack_has hz2 h3⟩
    cases ok <;> simp [Instr.lookup, run_under X.w ht, hck, hf, hz1]
  · rename_i q
    split at h2
    · rename_i ka va es hσ
      simp only [DR] at hm
      have hr := hτ q (by simp [rowsOf])
      obtain ⟨row, hσ1, hσ2⟩ := mapAt hσ
      rw [hσ1] at hr
      obtain ⟨ents, e1, e2, e3⟩ := (hX.rows q _ hr).maps hσ2
      have hobj : (getObj (X.L q).block).run P X.w = .ok (.map ents es.length) X.w := by simp [getObj, Sem.run, e1]
      cases hc : (ka == kag && va == ag) with
      | false => simp [hc] at h2
      | true =>
        simp only [hc, cond_true, Option.bind_eq_some_iff] at h2
        simp only [Bool.and_eq_true, beq_iff_eq] at hc
        obtain ⟨rfl, rfl⟩ := hc
        obtain ⟨p, h5, h6⟩ := h2
        obtain ⟨r, hf, hfd⟩ := findKey_ok (X := X) (va := va) hks hka hkey (es := es) (ents := ents.toList) (p := p) (by simpa using e2)
          (fun i e hi => by obtain ⟨m, h7, _, h8, h9⟩ := e3 i e hi; exact ⟨m, by simpa using h7, h8, h9⟩) h5
        cases p with
        | none =>
          simp only [Option.some.injEq] at h6
          subst h6
          have : r = none := hfd
          subst this
          refine ⟨uz, ?_, pack_has hz2 h3⟩
          cases ok <;> simp [Instr.lookup, run_under X.w ht, hm.1, hobj, hck, hf, hz1]
        | some i =>
          simp only [Option.bind_eq_some_iff, Option.some.injEq] at h6
          obtain ⟨en, h7, rfl⟩ := h6
          obtain ⟨m, h8, rfl⟩ := hfd
          obtain ⟨m', h9, _, _, h10⟩ := e3 i en h7
          have : m' = m := by
            have h8' : ents[i]? = some m := by simpa using h8
            rw [h9] at h8'
            exact Option.some.inj h8'
          subst this
          obtain ⟨dd, h11, h12⟩ := h10
          have : dd = d' := by
            simp only [Option.getD_some] at h3
            rw [h11] at h3
            exact Option.some.inj h3
          subst this
          refine ⟨m'.val, ?_, h12⟩
          cases ok <;> simp [Instr.lookup, run_under X.w ht, hm.1, hobj, hck, hf]
    · cases h2
  · cases h2
end

end Go.Ab

/- Operations, thirteenth part: makeMap, assignment to a map's entry, min, max, clear. -/
namespace Go.Ab
open Go
variable [Globs]

theorem eqCell_bits {X : Cx} {k : CK} {v v' : V} {u u' : Value} (h : eqCell k (.v v) (.v v') = some true) (hv : VR X.w X.S v u) (hv' : VR X.w X.S v' u') (n : Nat) : Instr.sameBits n u' u = true := by
  unfold eqCell at h
  split at h
  · rename_i k a k' b e1 e2
    cases e1
    cases e2
    cases hv
    cases hv'
    by_cases hk : k = k'
    · subst hk
      simp at h
      cases n <;> simp [Instr.sameBits, h]
    · simp [hk] at h
  · rename_i e1 e2
    cases e1
    cases e2
    cases hv
    cases hv'
    simp at h
    cases n <;> simp [Instr.sameBits, h]
  · rename_i e1 e2
    cases e1
    cases e2
    cases hv
    cases hv'
    simp at h
    cases n <;> simp [Instr.sameBits, beq_toListBytes, h]
  · cases h

theorem eqCells_bits {X : Cx} : ∀ {ks : List CK} {k k' : List V} {us us' : List Value}, eqCells ks (k.map .v) (k'.map .v) = some true → us.length = k.length → us'.length = k'.length →
    (∀ j v, k[j]? = some v → VR X.w X.S v (us.getD j undef)) → (∀ j v, k'[j]? = some v → VR X.w X.S v (us'.getD j undef)) → ∀ n, ((us'.zip us).all fun p => Instr.sameBits n p.1 p.2) = true
  | [], [], [], us, us', _, h1, h2, _, _, n => by
    have e1 : us = [] := List.eq_nil_of_length_eq_zero h1
    subst e1
    simp
  | [], v :: k, k', _, _, h, _, _, _, _, _ => by cases k' <;> simp [eqCells] at h
  | [], [], v :: k', _, _, h, _, _, _, _, _ => by simp [eqCells] at h
  | c :: ks, [], k', _, _, h, _, _, _, _, _ => by cases k' <;> simp [eqCells] at h
  | c :: ks, v :: k, [], _, _, h, _, _, _, _, _ => by simp [eqCells] at h
  | c :: ks, v :: k, v' :: k', [], _, _, h1, _, _, _, _ => by simp at h1
  | c :: ks, v :: k, v' :: k', u :: us, [], _, _, h2, _, _, _ => by simp at h2
  | c :: ks, v :: k, v' :: k', u :: us, u' :: us', h, h1, h2, h3, h4, n => by
    simp only [List.map_cons, eqCells, Option.bind_eq_some_iff, Option.some.injEq] at h
    obtain ⟨b, e1, b', e2, e3⟩ := h
    have : b = true ∧ b' = true := by simpa using e3
    obtain ⟨rfl, rfl⟩ := this
    have i1 := eqCell_bits (X := X) e1 (h3 0 v rfl) (h4 0 v' rfl) n
    have i2 := eqCells_bits (X := X) e2 (by simpa using h1) (by simpa using h2) (fun j w hj => h3 (j + 1) w hj) (fun j w hj => h4 (j + 1) w hj) n
    simp only [List.zip_cons_cons, List.all_cons, i2, Bool.and_true]
    exact i1

theorem cells_one {X : Cx} {d : D} {cs : List D} {u : Value} (hd : DR X d u) (h : d.cells? = some cs) (hag : isAggD d = false) : u.cells = #[u] := by
  cases d <;> simp only [D.cells?, Option.some.injEq, reduceCtorEq] at h <;> simp only [isAggD, reduceCtorEq] at hag
  · simp only [DR] at hd
    cases hd <;> rfl
  · rename_i t n xs
    cases t <;> simp only [DR] at hd
    · obtain ⟨c, a, b, o, us, rfl, _⟩ := hd; rfl
    · obtain ⟨c, a, b, o, us, rfl, _⟩ := hd; rfl
    · obtain ⟨a, b, o, us, rfl, _⟩ := hd; rfl
  · simp only [DR] at hd
    obtain ⟨k, b, o, us, rfl, _⟩ := hd; rfl
  · simp only [DR] at hd
    obtain ⟨b, o, us, rfl, _⟩ := hd; rfl
  · rename_i t cs
    cases t <;> simp only [DR] at hd <;> (obtain ⟨b, o, us, rfl, _⟩ := hd; rfl)
  · simp only [DR] at hd
    rw [hd.1]; rfl
  · simp only [DR] at hd
    obtain ⟨⟨a, rfl⟩, _⟩ := hd; rfl
  · simp only [DR] at hd
    obtain ⟨a, c, rfl, _⟩ := hd; rfl
  · simp only [DR] at hd
    rw [hd.1]; rfl
  · simp only [DR] at hd
    rw [hd.1]; rfl
  · simp only [DR] at hd
    obtain ⟨xs, ys, rfl, _⟩ := hd; rfl
  · simp only [DR] at hd
    obtain ⟨v, rfl, _⟩ := hd; rfl
  · simp only [DR] at hd
    obtain ⟨rfl, h1⟩ := hd
    cases u <;> first | rfl | (simp [Value.oneCell'] at h1)

theorem keyStays {P : Program} {X : Cx} {ks : List CK} {kag : Bool} {k k' : List V} {u u' : Value} (h : eqCells ks (k.map .v) (k'.map .v) = some true) (hk : CellsR X.w X.S kag k u) (hk' : CellsR X.w X.S kag k' u') :
    (Instr.keyThatStays u' u).run P X.w = .ok u X.w := by
  have : Instr.sameBits 10000 u' u = true := by
    cases kag with
    | false =>
      obtain ⟨v, h1, h2⟩ := CellsR_single hk
      obtain ⟨v', h3, h4⟩ := CellsR_single hk'
      subst h1 h3
      obtain ⟨hl, _⟩ := eqCells_length _ _ _ _ h
      cases ks with
      | nil => simp at hl
      | cons c ks =>
        cases ks with
        | cons c' ks => simp at hl
        | nil => exact eqCell_bits (eqCells_one h) h2 h4 _
    | true =>
      simp only [CellsR, if_true] at hk hk'
      obtain ⟨xs, rfl, h1, h2⟩ := hk
      obtain ⟨ys, rfl, h3, h4⟩ := hk'
      obtain ⟨hl, hl'⟩ := eqCells_length _ _ _ _ h
      simp only [List.length_map] at hl hl'
      have := eqCells_bits (X := X) (us := xs.toList) (us' := ys.toList) h (by simpa using h1) (by simpa using h3) (fun j v hj => by rw [getD_toList]; exact h2 j v hj) (fun j v hj => by rw [getD_toList]; exact h4 j v hj) 9999
      have e : ys.size = xs.size := by omega
      rw [show (10000 : Nat) = 9999 + 1 from rfl]
      simp only [Instr.sameBits, Bool.and_eq_true, beq_iff_eq]
      exact ⟨e, this⟩
  simp [Instr.keyThatStays, this]

section
variable {P : Program} {o : Oper} {X : Cx} {a : Act} (hX : StoR X)
include hX

theorem sim_mapUpdate {σ σ' : Sto} {t kt e : TypeId} {x k y : Operand} (ho : o.op = .mapUpdate t x k y ∨ o.op = .insert t x k y) {dm dk dx : D} (hm : DR X dm (a.eval x)) (hk : DR X dk (a.eval k)) (hx : DR X dx (a.eval y)) (ht : P.underlying t = some (.map kt e))
    {ks : List CK} (hks : plainKinds P 10 kt = some ks) {kag : Bool} (hka : isAgg? P kt = some kag) (hτ : ∀ r ∈ rowsOf dm ++ refsD dx, X.τ r = σ[r]?)
    (h : mu ks kag dm dk dx σ = some σ') :
    Sim P o X a (fun X' _ => X'.τ = fun q => if q ∈ rowsOf dm ++ refsD dx then σ'[q]? else X.τ q) ∧ σ'.length = σ.length ∧ ∀ q, q ∉ rowsOf dm ++ refsD dx → σ'[q]? = σ[q]? := by
  simp only [mu, Option.bind_eq_some_iff] at h
  obtain ⟨key, h1, xc, h2, h4⟩ := h
  obtain ⟨hkey, r0, hr0⟩ := keyOf_ok hk h1
  have hlen : (key.map D.v).length = ks.length := (eqCells_length _ _ _ _ hr0).1
  split at h4
  · rename_i q
    split at h4
    · rename_i ka va es hσ
      cases hc : (ka == kag && va == isAggD dx) with
      | false => simp [hc] at h4
      | true =>
        simp only [hc, cond_true, Option.bind_eq_some_iff, Option.some.injEq] at h4
        obtain ⟨p, h5, h6⟩ := h4
        simp only [Bool.and_eq_true, beq_iff_eq] at hc
        obtain ⟨rfl, rfl⟩ := hc
        -- the value's cells
        have hval : PkR X (isAggD dx) xc (a.eval y) := by
          refine ⟨dx, ?_, hx⟩
          cases dx <;> simp only [D.cells?, Option.some.injEq, reduceCtorEq] at h2 <;> subst h2 <;> rfl
        have hτ1 : X.τ q = some (.map ka (isAggD dx) es) := by rw [← hσ]; exact hτ q (by simp [rowsOf])
        simp only [DR] at hm
        have hmv : a.eval x = .map (some (X.L q).block) := hm.1
        obtain ⟨ents, e1, e2, e3⟩ := hX.rows q _ hτ1
        have hobj : (getObj (X.L q).block).run P X.w = .ok (.map ents es.length) X.w := by simp [getObj, Sem.run, e1]
        have hck : (Instr.checkKey false 10000 kt (a.eval k)).run P X.w = .ok () X.w := checkKey_ok 10 kt ks hks 10000 (by decide) ka hka _ _ (HasR_v.2 hkey) hlen
        obtain ⟨r, hf, hfd⟩ := findKey_ok (X := X) (va := isAggD dx) hks hka hkey (es := es) (ents := ents.toList) (p := p) (by simpa using e2)
          (fun i e hi => by obtain ⟨m, h7, _, h8, h9⟩ := e3 i e hi; exact ⟨m, by simpa using h7, h8, h9⟩) h5
        have hlt1 : q < σ.length := (List.getElem?_eq_some_iff.1 hσ).1
        -- the row behind it
        have put : ∀ (ents' : Array MapEntry), ents'.size = (putPos es key xc p).length →
            (∀ (i : Nat) (e : List V × List D), (putPos es key xc p)[i]? = some e → ∃ m : MapEntry, ents'[i]? = some m ∧ m.born = i ∧ CellsR X.w X.S ka e.1 m.key ∧ PkR X (isAggD dx) e.2 m.val) →
            (Instr.mapUpdate t (.map (some (X.L q).block)) (a.eval k) (a.eval y)).run P X.w = .ok () { X.w with heap := X.w.heap.setIfInBounds (X.L q).block (.map ents' (putPos es key xc p).length) } →
            Sim P o X a (fun X' _ => X'.τ = fun q' => if q' ∈ rowsOf (.mp q) ++ refsD dx then σ'[q']? else X.τ q') := by
          intro ents' hs hm' hrun
          have htch : Touched X.w { X.w with heap := X.w.heap.setIfInBounds (X.L q).block (.map ents' (putPos es key xc p).length) } (X.L q).block :=
            ⟨fun b hb => (MapKept.heap_set e1).2 b hb, by simp, rfl, rfl, rfl, Nat.le_refl _⟩
          have he := turn_ext (row' := .map ka (isAggD dx) (putPos es key xc p)) htch hτ1 trivial trivial (.map _ _ _ _ _)
          have hsto := turn_sto (row' := .map ka (isAggD dx) (putPos es key xc p)) hX htch hτ1 trivial trivial (.map _ _ _ _ _)
            ⟨ents', (MapKept.heap_set e1).1, hs, fun i e hi => by
              obtain ⟨m, m1, mb, m2, m3⟩ := hm' i e hi
              exact ⟨m, m1, mb, m2.mono he.S (he.cellS hX), m3.ext hX he⟩⟩
          refine Sim.skip ?_ he hsto ?_
          · rcases ho with ho | ho <;> simp [execOp, ho, hmv, hrun] <;> rfl
          · funext q'
            show upd1 X.τ q _ q' = _
            rw [← h6]
            by_cases e : q' = q
            · subst e
              rw [upd1_same, if_pos (by simp [rowsOf]), List.getElem?_set_self hlt1]
            · rw [upd1_ne _ _ e, List.getElem?_set_ne (fun h => e h.symm)]
              by_cases hq' : q' ∈ rowsOf (.mp q) ++ refsD dx
              · rw [if_pos hq']; exact hτ q' hq'
              · rw [if_neg hq']
        refine ⟨?_, by rw [← h6, List.length_set], fun q' hq' => ?_⟩
        · cases p with
          | none =>
            have : r = none := hfd
            subst this
            refine put (ents.push { key := a.eval k, val := a.eval y, born := es.length }) (by simp [putPos, e2]) ?_ ?_
            · intro i e hi
              simp only [putPos] at hi
              by_cases hlt : i < es.length
              · rw [List.getElem?_append_left hlt] at hi
                obtain ⟨m, m1, m2⟩ := e3 i e hi
                exact ⟨m, by rw [Array.getElem?_push, if_neg (by omega)]; exact m1, m2⟩
              · rw [List.getElem?_append_right (by omega)] at hi
                have hi0 : i - es.length = 0 := by
                  have := (List.getElem?_eq_some_iff.1 hi).1
                  simp at this
                  omega
                rw [hi0] at hi
                simp only [List.getElem?_cons_zero, Option.some.injEq] at hi
                subst hi
                exact ⟨_, by rw [Array.getElem?_push, if_pos (by omega)], by show es.length = i; omega, hkey, hval⟩
            · simp [Instr.mapUpdate, run_under X.w ht, hobj, hck, hf, MapKept.run_setObj_map _ e1, putPos]
          | some i =>
            obtain ⟨m, h8, rfl⟩ := hfd
            have h8' : ents[i]? = some m := by simpa using h8
            obtain ⟨en, h9, h10⟩ := posOf_lt h5
            obtain ⟨m', h11, hb11, h12, h13⟩ := e3 i en h9
            have : m' = m := by rw [h8'] at h11; exact (Option.some.inj h11).symm
            subst this
            have hst := keyStays (P := P) (X := X) h10 hkey h12
            refine put (ents.modify i fun e => { e with key := a.eval k, val := a.eval y }) (by simp [putPos, e2]) ?_ ?_
            · intro j e hj
              simp only [putPos] at hj
              by_cases hij : i = j
              · subst hij
                rw [List.getElem?_set_self (List.getElem?_eq_some_iff.1 h9).1] at hj
                simp only [Option.some.injEq] at hj
                subst hj
                exact ⟨{ m' with key := a.eval k, val := a.eval y }, by simp [Array.getElem?_modify, h8'], hb11, hkey, hval⟩
              · rw [List.getElem?_set_ne hij] at hj
                obtain ⟨m, m1, m2⟩ := e3 j e hj
                exact ⟨m, by simp [Array.getElem?_modify, hij, m1], m2⟩
            · simp [Instr.mapUpdate, run_under X.w ht, hobj, hck, hf, h8', hst, MapKept.run_setObj_map _ e1, putPos]
        · rw [← h6]
          rw [List.mem_append, not_or] at hq'
          rw [List.getElem?_set_ne (fun e => hq'.1 (by simp [rowsOf, e]))]
    · cases h4
  · cases h4

theorem sim_makeMap {t : TypeId} (ho : o.op = .makeMap t none) {q : Nat} (hq : X.τ q = none) (ka va : Bool) :
    Sim P o X a (fun X' v => DR X' (.mp q) v ∧ X'.τ = upd1 X.τ q (some (.map ka va []))) := by
  have hf := Fresh.alloc X.w (.map #[] 0)
  let l : Loc := ⟨X.w.heap.size, 0, 0⟩
  have he : Ext X (X.add (X.w.alloc (.map #[] 0)) q (.map ka va []) l) := add_ext hf hq rfl
  have hsto : StoR (X.add (X.w.alloc (.map #[] 0)) q (.map ka va []) l) := by
    refine add_sto hX hf hq rfl ⟨#[], ?_, rfl, fun i e hi => by simp at hi⟩
    show (X.w.alloc _).heap[((upd1 X.L q l) q).block]? = _
    rw [upd1_same]
    exact hf.new
  refine Sim.value (X' := X.add (X.w.alloc (.map #[] 0)) q (.map ka va []) l) (u := .map (some X.w.heap.size)) ?_ he hsto ⟨?_, rfl⟩
  · simp [execOp, ho, Instr.makeMap, newObj]
    rfl
  · simp only [DR]
    exact ⟨by show _ = Value.map (some ((upd1 X.L q l) q).block); rw [upd1_same], .map ka va [], by show upd1 X.τ q _ q = _; rw [upd1_same], trivial⟩

omit hX in
theorem minmax_ok {mx : Bool} : ∀ (ds : List D) (us : List Value) (d0 : D) (u0 : Value) (d : D), ds.length = us.length → DR X d0 u0 → DRs X ds (fun j => us.getD j undef) → minmax mx d0 ds = some d →
    ∃ u, (us.foldlM (if mx then Builtin.max2 else Builtin.min2) u0).run P X.w = .ok u X.w ∧ DR X d u
  | [], [], d0, u0, d, _, h0, _, h => by
    simp only [minmax, Option.some.injEq] at h
    subst h
    exact ⟨u0, by simp, h0⟩
  | [], _ :: _, _, _, _, hl, _, _, _ => by simp at hl
  | _ :: _, [], _, _, _, hl, _, _, _ => by simp at hl
  | x :: ds, y :: us, d0, u0, d, hl, h0, hd, h => by
    simp only [minmax, Option.bind_eq_some_iff] at h
    obtain ⟨d1, h1, h⟩ := h
    simp only [DRs, List.getD_cons_zero, List.getD_cons_succ] at hd
    unfold mm1 at h1
    split at h1
    · rename_i k m k' n
      simp only [DR] at h0 hd
      obtain ⟨hy, hd⟩ := hd
      cases h0
      cases hy
      by_cases hk : k = k'
      · subst hk
        simp only [decide_true, cond_true, Option.some.injEq] at h1
        subst h1
        cases mx with
        | true =>
          obtain ⟨u, h2, h3⟩ := minmax_ok ds us (.v (.int k (if n > m then n else m))) (.int k (if n > m then n else m)) d (by simpa using hl) (by simp only [DR]; exact .int _ _) hd (by
            rw [← h]; congr 3; by_cases hh : n > m <;> simp [hh])
          refine ⟨u, ?_, h3⟩
          simp only [if_true] at h2
          simp only [List.foldlM_cons, if_true, Sem.run_bind, Builtin.max2, Sem.run_pure, Result.andThen_ok]
          exact h2
        | false =>
          obtain ⟨u, h2, h3⟩ := minmax_ok ds us (.v (.int k (if n < m then n else m))) (.int k (if n < m then n else m)) d (by simpa using hl) (by simp only [DR]; exact .int _ _) hd (by
            rw [← h]; congr 3; by_cases hh : n < m <;> simp [hh])
          refine ⟨u, ?_, h3⟩
          simp only [Bool.false_eq_true, if_false] at h2
          simp only [List.foldlM_cons, Bool.false_eq_true, if_false, Sem.run_bind, Builtin.min2, Sem.run_pure, Result.andThen_ok]
          exact h2
      · simp [hk] at h1
    · cases h1

theorem sim_minmax {k : Call} (ho : o.op = .call k) {mx : Bool} {args : Array Operand} {ts : Array TypeId} (hk : k = { callee := .builtin (if mx then .max else .min), args := args, argTypes := ts }) {d0 d : D} {ds : List D}
    (hs : args.size = ds.length + 1) (hd : DRs X (d0 :: ds) (fun j => (args.map a.eval).getD j undef)) (h : minmax mx d0 ds = some d) : Sim P o X a (fun X' u => DR X' d u ∧ X'.τ = X.τ) := by
  obtain ⟨y, ys, hy⟩ : ∃ y ys, (args.map a.eval).toList = y :: ys := by
    cases hl : (args.map a.eval).toList with
    | nil => have := congrArg List.length hl; simp [hs] at this
    | cons y ys => exact ⟨y, ys, rfl⟩
  have hlen : ds.length = ys.length := by
    have := congrArg List.length hy
    simp [hs] at this
    exact this
  have hg : ∀ j, (args.map a.eval).getD j undef = (y :: ys).getD j undef := fun j => by rw [← hy, getD_toList]
  simp only [DRs, hg, List.getD_cons_zero, List.getD_cons_succ] at hd
  obtain ⟨u, h1, h2⟩ := minmax_ok (P := P) ds ys d0 y d hlen hd.1 hd.2 h
  have hy' : List.map a.eval args.toList = y :: ys := by simpa using hy
  refine Sim.value (X' := X) (u := u) (run_builtin ho hk ?_) (Ext.refl X) hX ⟨h2, rfl⟩
  cases mx with
  | true => simp only [if_true] at h1 ⊢; simp [Go.builtin, Builtin.max_, hy', h1]
  | false => simp only [Bool.false_eq_true, if_false] at h1 ⊢; simp [Go.builtin, Builtin.min_, hy', h1]

theorem sim_clear {σ σ' : Sto} {k : Call} (ho : o.op = .call k) {x : Operand} {t e : TypeId} (hk : k = { callee := .builtin .clear, args := #[x], argTypes := #[t] }) {dx d : D} (hx : DR X dx (a.eval x))
    (ht : P.underlying t = some (.slice e)) {m : Nat} {z : List V} (hz : zero? P e = some z) (hτ : ∀ q ∈ rowsOf dx, X.τ q = σ[q]?) (h : clear m z dx σ = some (d, σ')) :
    Sim P o X a (fun X' u => DR X' d u ∧ X'.τ = fun q => if q ∈ rowsOf dx then σ'[q]? else X.τ q) ∧ σ'.length = σ.length ∧ ∀ q, q ∉ rowsOf dx → σ'[q]? = σ[q]? := by
  have htup : ∀ Y : Cx, DR Y (.tup []) (.tuple #[]) := fun Y => by simp [DR, DRs]
  unfold clear at h
  split at h
  · rename_i r g m' off n
    by_cases hc : m' = m ∧ z.length = m
    · obtain ⟨rfl, hzl⟩ := hc
      simp only [beq_self_eq_true, hzl, Bool.and_self, cond_true, Option.bind_eq_some_iff, Option.some.injEq, Prod.mk.injEq] at h
      obtain ⟨xs, h1, rfl, rfl⟩ := h
      obtain ⟨mm, hσ⟩ := mutAt_ok h1
      have hlt : r < σ.length := (List.getElem?_eq_some_iff.1 hσ).1
      have hr1 : X.τ r = some (.arr mm g xs) := by rw [hτ r (by simp [rowsOf]), hσ]
      have setrow : ∀ row, (fun q => if q ∈ rowsOf (D.rs r g m' off n) then (σ.set r row)[q]? else X.τ q) = upd1 X.τ r (some row) := by
        intro row
        funext q
        by_cases e : q = r
        · subst e
          rw [upd1_same, if_pos (by simp [rowsOf]), List.getElem?_set_self hlt]
        · rw [upd1_ne _ _ e, if_neg (by simpa [rowsOf] using e)]
      refine ⟨?_, by simp, fun q hq' => List.getElem?_set_ne (fun e => hq' (by simp [rowsOf, e])) ..⟩
      rw [setrow]
      simp only [DR] at hx
      obtain ⟨ad, c, e1, e2, e3, e4⟩ := hx
      obtain ⟨rfl, h5, h6, h7⟩ := e4.now (.inl hr1)
      obtain ⟨g0, g1, g2, g3⟩ := hX.rows r _ hr1
      obtain ⟨uz, z1, z2, z3⟩ := zeroValue_cells hz
      rcases Nat.eq_zero_or_pos n with hn0 | hn0
      · subst hn0
        have : upd1 X.τ r (some (.arr mm g (setRange xs off (List.replicate 0 z)))) = X.τ := by
          funext q
          by_cases e : q = r
          · subst e; rw [upd1_same, hr1]; rfl
          · rw [upd1_ne _ _ e]
        rw [this]
        refine Sim.value (X' := X) (u := .tuple #[]) (run_builtin ho hk ?_) (Ext.refl X) hX ⟨htup _, rfl⟩
        cases ad <;> simp [Go.builtin, Builtin.clear_, run_under X.w ht, e1]
      · have hc0 : 0 < c := by omega
        obtain ⟨cc, ee, g4, g5, g6⟩ := g3 (by omega)
        let news := Builtin.zeroCells uz.cells n
        have hnsz : news.size = n * mm := by simp only [news, size_zeroCells, z2, hzl]
        have hnews : NewsR X.w X.S mm (List.replicate n z) news := by
          refine ⟨by rw [List.length_replicate, hnsz], fun cs hcs => by rw [List.eq_of_mem_replicate hcs, hzl], fun i cs hi j v hj => ?_⟩
          have hi' := List.getElem?_eq_some_iff.1 hi
          obtain ⟨hl, he⟩ := hi'
          rw [List.length_replicate] at hl
          rw [List.getElem_replicate] at he
          subst he
          have hjl : j < mm := by rw [← hzl]; exact (List.getElem?_eq_some_iff.1 hj).1
          have hlt : i * mm + j < n * mm := index_lt hl hjl
          have e : news.getD (i * mm + j) undef = uz.cells.getD j undef := by
            rw [Array.getD_eq_getD_getElem?, Array.getElem?_eq_getElem (by rw [hnsz]; exact hlt)]
            have hju : j < uz.cells.size := by rw [z2, hzl]; exact hjl
            have hmod : (i * mm + j) % uz.cells.size = j := by rw [z2, hzl, Nat.mul_comm, Nat.mul_add_mod, Nat.mod_eq_of_lt hjl]
            have e1 : uz.cells[j]! = uz.cells[j] := getElem!_pos uz.cells _ hju
            simp [news, Builtin.zeroCells, hmod, hju]
          rw [e]
          exact z3 j v hj
        have hsz : news.toList.length = n * mm := by simp [hnsz]
        have hmul : off * mm + n * mm ≤ (X.L r).cap * mm := by rw [← Nat.add_mul]; exact Nat.mul_le_mul_right _ (by omega)
        have hsp : (X.L r).off + off * mm + news.toList.length ≤ cc.size := by omega
        have hst := run_storeCells_at (P := P) (X.L r).block ((X.L r).off + off * mm) ee news.toList 0 cc X.w g4 (by omega) (hnews.one g0)
        rw [Nat.add_zero] at hst
        have hrun : (execOp a.eval o).run P X.w = .ok (.value (.tuple #[])) (X.w.setRow (X.L r).block (cc.toList.take ((X.L r).off + off * mm) ++ news.toList ++ cc.toList.drop ((X.L r).off + off * mm + news.toList.length)).toArray) := by
          refine run_builtin ho hk ?_
          obtain ⟨n', rfl⟩ : ∃ k, n = k + 1 := ⟨n - 1, by omega⟩
          have e1' := e1
          rw [h7 hc0] at e1'
          simp [Go.builtin, Builtin.clear_, run_under X.w ht, e1', z1, hst, news]
        have hfit : off + (List.replicate n z).length ≤ xs.length := by rw [List.length_replicate]; exact h5
        have hw := arr_write hX hr1 (by omega) (xs' := setRange xs off (List.replicate n z)) g4 (splice_size _ _ _ hsp) (setRange_length _ _ _)
          (fun cs hcs => by
            obtain ⟨i, hi⟩ := List.mem_iff_getElem?.1 hcs
            rw [setRange_get _ _ _ hfit] at hi
            split at hi
            · exact hnews.all cs (List.mem_of_getElem? hi)
            · exact g1 cs (List.mem_of_getElem? hi))
          (fun i cs hi j v hj => by
            rw [setRange_get _ _ _ hfit] at hi
            rw [getD_splice _ _ _ hsp, hsz]
            rw [List.length_replicate] at hi
            by_cases hin : off ≤ i ∧ i < off + n
            · rw [if_pos hin] at hi
              have hjm : j < mm := by rw [← hnews.all cs (List.mem_of_getElem? hi)]; exact (List.getElem?_eq_some_iff.1 hj).1
              have e1 : i * mm = off * mm + (i - off) * mm := by rw [← Nat.add_mul]; congr 1; omega
              have hlt2 := index_lt (show i - off < n by omega) hjm
              rw [if_pos (by omega), getD_toList, show (X.L r).off + i * mm + j - ((X.L r).off + off * mm) = (i - off) * mm + j by omega]
              exact hnews.vr _ cs hi j v hj
            · rw [if_neg hin] at hi
              have hjm : j < mm := by rw [← g1 cs (List.mem_of_getElem? hi)]; exact (List.getElem?_eq_some_iff.1 hj).1
              have hne : ¬ ((X.L r).off + off * mm ≤ (X.L r).off + i * mm + j ∧ (X.L r).off + i * mm + j < (X.L r).off + off * mm + n * mm) := by
                intro hh
                rcases Nat.lt_or_ge i off with hlt' | hge'
                · have := Nat.mul_le_mul_right mm (Nat.succ_le_of_lt hlt')
                  rw [Nat.succ_mul] at this
                  omega
                · have hge2 : off + n ≤ i := by omega
                  have := Nat.mul_le_mul_right mm hge2
                  rw [Nat.add_mul] at this
                  omega
              rw [if_neg hne]
              exact g6 i cs hi j v hj)
        exact Sim.value hrun hw.1 hw.2 ⟨htup _, rfl⟩
    · have : (m' == m && z.length == m) = false := by
        rcases Decidable.not_and_iff_not_or_not.1 hc with hc | hc <;> simp [hc]
      simp [this] at h
  · simp only [Option.some.injEq, Prod.mk.injEq] at h
    obtain ⟨rfl, rfl⟩ := h
    simp only [DR] at hx
    generalize hu : a.eval x = ux at hx
    cases hx
    refine ⟨Sim.value (X' := X) (u := .tuple #[]) (run_builtin ho hk ?_) (Ext.refl X) hX ⟨htup _, ?_⟩, rfl, fun _ _ => rfl⟩
    · rename_i ad
      cases ad <;> simp [Go.builtin, Builtin.clear_, run_under X.w ht, hu]
    · funext q
      simp [rowsOf]
  · cases h
theorem sim_range {σ σ' : Sto} {t kt e : TypeId} {x : Operand} (ho : o.op = .range t x) {dx d : D} (hx : DR X dx (a.eval x)) (ht : P.underlying t = some (.map kt e))
    (hτ : ∀ q ∈ rowsOf dx, X.τ q = σ[q]?) (hq : ∀ q, σ.length ≤ q → q < σ'.length → X.τ q = none) (h : rgOp dx σ = some (d, σ')) :
    Sim P o X a (fun X' u => DR X' d u ∧ X'.τ = fun q => if q ∈ rowsOf dx ∨ (σ.length ≤ q ∧ q < σ'.length) then σ'[q]? else X.τ q) := by
  unfold rgOp at h
  split at h
  · rename_i m
    split at h
    · rename_i ka va es hσ
      simp only [Option.some.injEq, Prod.mk.injEq] at h
      obtain ⟨rfl, rfl⟩ := h
      obtain ⟨mrow, hσ1, hσ2⟩ := mapAt hσ
      have hm1 : X.τ m = some mrow := by rw [hτ m (by simp [rowsOf]), hσ1]
      have hlt : m < σ.length := (List.getElem?_eq_some_iff.1 hσ1).1
      have hnew : X.τ σ.length = none := hq _ (Nat.le_refl _) (by simp)
      simp only [DR] at hx
      obtain ⟨ents, e1, e2, e3⟩ := (hX.rows m _ hm1).maps hσ2
      let ob : Obj := .mapIter (some (X.L m).block) es.length #[] es.length
      have hf := Fresh.alloc X.w ob
      let l : Loc := ⟨X.w.heap.size, 0, 0⟩
      have he : Ext X (X.add (X.w.alloc ob) σ.length (.iter m es.length []) l) := add_ext hf hnew rfl
      have hLm : (X.add (X.w.alloc ob) σ.length (.iter m es.length []) l).L m = X.L m := by
        show upd1 X.L σ.length l m = X.L m
        exact upd1_ne _ _ (by omega)
      have hsto : StoR (X.add (X.w.alloc ob) σ.length (.iter m es.length []) l) := by
        refine add_sto hX hf hnew rfl ⟨?_, mrow, ?_, rowMap_isMap hσ2⟩
        · rw [hLm]
          show (X.w.alloc _).heap[((upd1 X.L σ.length l) σ.length).block]? = _
          rw [upd1_same]
          exact hf.new
        · show upd1 X.τ σ.length _ m = _
          rw [upd1_ne _ _ (by omega)]
          exact hm1
      refine Sim.value (X' := X.add (X.w.alloc ob) σ.length (.iter m es.length []) l) (u := .pointer (some (at_ X.w.heap.size 0))) ?_ he hsto ⟨?_, ?_⟩
      · simp [execOp, ho, Instr.range, run_under X.w ht, hx.1, getObj, Sem.run, e1, newObj, ob]
        rfl
      · simp only [DR]
        exact ⟨by show _ = Value.pointer (some (at_ ((upd1 X.L σ.length l) σ.length).block 0)); rw [upd1_same], .iter m es.length [], by show upd1 X.τ σ.length _ σ.length = _; rw [upd1_same], trivial⟩
      · funext q
        show upd1 X.τ σ.length _ q = _
        by_cases e : q = σ.length
        · subst e
          rw [upd1_same, if_pos (.inr ⟨Nat.le_refl _, by simp⟩)]
          simp
        · rw [upd1_ne _ _ e]
          by_cases hqm : q = m
          · subst hqm
            rw [if_pos (.inl (by simp [rowsOf])), List.getElem?_append_left hlt, hσ1, hm1]
          · rw [if_neg]
            rintro (h | h)
            · simp [rowsOf] at h
              exact hqm h
            · simp at h
              omega
    · cases h
  · cases h

omit hX in
theorem find_at {es : List MapEntry} {j k : Nat} {m : MapEntry} (hb : ∀ (i : Nat) (e : MapEntry), es[i]? = some e → e.born = k + i) (hj : es[j]? = some m) : es.find? (·.born == k + j) = some m := by
  induction es generalizing j k with
  | nil => simp at hj
  | cons e es ih =>
    cases j with
    | zero =>
      simp only [List.getElem?_cons_zero, Option.some.injEq] at hj
      subst hj
      have := hb 0 e rfl
      simp [List.find?_cons, this]
    | succ j =>
      have h0 := hb 0 e rfl
      have : (e.born == k + (j + 1)) = false := by
        rw [h0]
        simp
      rw [List.find?_cons, this]
      have := ih (j := j) (k := k + 1) (fun i e' hi => by have := hb (i + 1) e' (by simpa using hi); omega) (by simpa using hj)
      rw [show k + 1 + j = k + (j + 1) by omega] at this
      exact this

theorem sim_entry {σ : Sto} {x : Operand} (ho : o.op = .entry x) {dx dk dv : D} {r m : Nat} (hx : DR X dx (a.eval x)) (hτ : ∀ q ∈ [r, m], X.τ q = σ[q]?) (h : entAt dx σ = some (dk, dv, r, m)) :
    Sim P o X a (fun X' u => DR X' (.tup [dk, dv]) u ∧ X'.τ = X.τ) := by
  unfold entAt at h
  split at h
  · rename_i r'
    split at h
    · rename_i m' n seen hσ
      split at h
      · rename_i ka va es hσ'
        cases hc : (es.length == n) with
        | false => simp [hc] at h
        | true =>
          simp only [hc, cond_true, Option.bind_eq_some_iff, Option.some.injEq, Prod.mk.injEq] at h
          obtain ⟨j, h1, e, h2, k', h3, v', h4, rfl, rfl, rfl, rfl⟩ := h
          have hn : es.length = n := by simpa using hc
          have t1 : X.τ r' = some (.iter m' n seen) := by rw [hτ r' (by simp), hσ]
          obtain ⟨mrow, hσ1, hσ2⟩ := mapAt hσ'
          have t2 : X.τ m' = some mrow := by rw [hτ m' (by simp), hσ1]
          obtain ⟨i1, _⟩ := hX.rows r' _ t1
          obtain ⟨ents, e1, e2, e3⟩ := (hX.rows m' _ t2).maps hσ2
          simp only [DR] at hx
          obtain ⟨en, g1, g2, g3, d0, g4, g5⟩ := e3 j e h2
          have hfind : ents.find? (·.born == j) = some en := by
            rw [← Array.find?_toList]
            have := find_at (es := ents.toList) (j := j) (k := 0) (m := en) (fun i e' hi => by
              have hi' : ents[i]? = some e' := by simpa using hi
              have hlt : i < es.length := by rw [← e2]; exact (Array.getElem?_eq_some_iff.1 hi').1
              obtain ⟨en', q1, q2, _⟩ := e3 i es[i] (List.getElem?_eq_getElem hlt)
              rw [hi'] at q1
              cases q1
              omega) (by simpa using g1)
            simpa using this
          have hback : seen.toArray.back? = some j := by simpa using h1
          have hrun : (Instr.entry (a.eval x)).run P X.w = .ok (.tuple #[en.key, en.val]) X.w := by
            rw [hx.1]
            simp only [Instr.entry, getObj, Sem.run_bind, Sem.run, i1, e1, Result.andThen, hback, hn, bne_self_eq_false, Bool.false_eq_true, if_false, hfind]
            rfl
          refine Sim.value (X' := X) (u := .tuple #[en.key, en.val]) (by simp [execOp, ho, hrun]) (Ext.refl X) hX ⟨?_, rfl⟩
          have hdk : DR X k' en.key := pack_has g3 h3
          have hdv : DR X v' en.val := by
            rw [g4] at h4
            cases h4
            exact g5
          simp only [DR]
          refine ⟨_, rfl, rfl, ?_⟩
          simp only [DRs]
          exact ⟨by simpa using hdk, by simpa using hdv, trivial⟩
      · cases h
    · cases h
  · cases h
end

end Go.Ab

/- Calls: pure facts of the store; which rows are reached; rows under other names. -/
namespace Go.Ab
open Go
variable [Globs]

theorem bif_some {α : Type} {b : Bool} {x : Option α} {y : α} (h : (bif b then x else none) = some y) : b = true ∧ x = some y := by
  cases b with
  | false => cases h
  | true => exact ⟨rfl, h⟩

theorem bif_some' {α : Type} {b : Bool} {x : Option α} {y : α} (h : (bif b then none else x) = some y) : b = false ∧ x = some y := by
  cases b with
  | true => cases h
  | false => exact ⟨rfl, h⟩

/-! ### Pure facts of the store -/
theorem set_keep {σ : Sto} {r : Nat} {row : Row} {q : Nat} (h : q ≠ r) : (σ.set r row)[q]? = σ[q]? := List.getElem?_set_ne (fun e => h e.symm)

def Pure (σ σ' : Sto) (ts : List Nat) : Prop := σ.length ≤ σ'.length ∧ ∀ q, q ∉ ts → q < σ.length → σ'[q]? = σ[q]?
def PureE (σ σ' : Sto) (ts : List Nat) : Prop := σ'.length = σ.length ∧ ∀ q, q ∉ ts → σ'[q]? = σ[q]?

theorem PureE.refl (σ : Sto) (ts : List Nat) : PureE σ σ ts := ⟨rfl, fun _ _ => rfl⟩
theorem PureE.set (σ : Sto) {r : Nat} {row : Row} {ts : List Nat} (h : r ∈ ts) : PureE σ (σ.set r row) ts := ⟨by simp, fun q hq => set_keep fun e => hq (e ▸ h)⟩
theorem PureE.trans {a b c : Sto} {ts us : List Nat} (h : PureE a b ts) (k : PureE b c us) : PureE a c (ts ++ us) :=
  ⟨k.1.trans h.1, fun q hq => by rw [List.mem_append, not_or] at hq; exact (k.2 q hq.2).trans (h.2 q hq.1)⟩
theorem PureE.weaken {a b : Sto} {ts us : List Nat} (h : PureE a b ts) (hs : ∀ q ∈ ts, q ∈ us) : PureE a b us := ⟨h.1, fun q hq => h.2 q fun e => hq (hs q e)⟩
theorem PureE.pure {a b : Sto} {ts : List Nat} (h : PureE a b ts) : Pure a b ts := ⟨by rw [h.1]; exact Nat.le_refl _, fun q hq _ => h.2 q hq⟩
theorem Pure.append (σ rows : Sto) (ts : List Nat) : Pure σ (σ ++ rows) ts := ⟨by simp, fun q _ hl => List.getElem?_append_left hl⟩

theorem toV_pure {σ σ' : Sto} {d : D} {v : V} (h : toV σ d = some (v, σ')) : PureE σ σ' (refsD d) := by
  unfold toV at h
  split at h
  · simp only [Option.some.injEq, Prod.mk.injEq] at h; obtain ⟨_, rfl⟩ := h; exact .refl _ _
  · simp only [Option.some.injEq, Prod.mk.injEq] at h; obtain ⟨_, rfl⟩ := h; exact .refl _ _
  · simp only [Option.some.injEq, Prod.mk.injEq] at h; obtain ⟨_, rfl⟩ := h; exact .refl _ _
  · simp only [Option.bind_eq_some_iff, Option.some.injEq, Prod.mk.injEq] at h
    obtain ⟨xs, _, _, rfl⟩ := h
    exact .set _ (by simp [refsD])
  · simp only [Option.some.injEq, Prod.mk.injEq] at h; obtain ⟨_, rfl⟩ := h; exact .refl _ _
  · cases h

theorem toVs_pure : ∀ {ds : List D} {σ σ' : Sto} {vs : List V}, toVs σ ds = some (vs, σ') → PureE σ σ' (refsDs ds)
  | [], σ, σ', vs, h => by
    simp only [toVs, Option.some.injEq, Prod.mk.injEq] at h
    obtain ⟨_, rfl⟩ := h
    exact .refl _ _
  | d :: ds, σ, σ', vs, h => by
    simp only [toVs, Option.bind_eq_some_iff, Option.some.injEq, Prod.mk.injEq] at h
    obtain ⟨⟨v, σ1⟩, h1, ⟨vs', σ2⟩, h2, _, rfl⟩ := h
    simp only [refsDs]
    exact (toV_pure h1).trans (toVs_pure h2)

theorem cells_refs {d : D} {cs : List D} (h : d.cells? = some cs) : refsDs cs = refsD d := by
  cases d <;> simp only [D.cells?, Option.some.injEq, reduceCtorEq] at h <;> subst h <;> simp [refsDs, refsD]

theorem st_pure {σ σ' : Sto} {n : Nat} {a x : D} (h : st n a x σ = some σ') : PureE σ σ' (rowsOf a ++ refsD x) := by
  simp only [st, Option.bind_eq_some_iff] at h
  obtain ⟨cs, h1, h⟩ := h
  have hr := cells_refs h1
  replace h := (bif_some h).2
  unfold storeCells at h
  split at h
  · rename_i r o
    split at h
    · replace h := (bif_some h).2
      simp only [Option.some.injEq] at h
      subst h
      exact .set _ (by simp [rowsOf])
    · cases h
  · rename_i r g i o
    simp only [Option.bind_eq_some_iff] at h
    obtain ⟨⟨vs, σ1⟩, h2, h⟩ := h
    have hp := toVs_pure h2
    split at h
    · replace h := (bif_some h).2
      simp only [Option.bind_eq_some_iff] at h
      obtain ⟨old, _, h⟩ := h
      replace h := (bif_some h).2
      simp only [Option.some.injEq] at h
      subst h
      exact (hp.trans (PureE.set (ts := [r]) _ (by simp))).weaken fun q hq => by rw [hr] at hq; simp [rowsOf] at hq ⊢; exact hq.symm
    · cases h
  · cases h

theorem appendTo_pure {m b : Nat} {s d : D} {ys : List (List V)} {σ σ' : Sto} (h : appendTo m b s ys σ = some (d, σ')) : Pure σ σ' (refsD s) := by
  unfold appendTo at h
  split at h
  · obtain ⟨_, h⟩ := bif_some h
    simp only [Option.some.injEq, Prod.mk.injEq] at h
    obtain ⟨_, rfl⟩ := h
    exact .append _ _ _
  · obtain ⟨_, h⟩ := bif_some h
    split at h
    · simp only [Option.some.injEq, Prod.mk.injEq] at h
      obtain ⟨_, rfl⟩ := h
      exact (PureE.refl _ _).pure
    · simp only [Option.some.injEq, Prod.mk.injEq] at h
      obtain ⟨_, rfl⟩ := h
      exact .append _ _ _
  · simp only [Option.bind_eq_some_iff] at h
    rename_i r g m' off n
    obtain ⟨xs, _, h⟩ := h
    replace h := (bif_some h).2
    cases hc : decide (off + n + ys.length ≤ xs.length) with
    | true =>
      simp only [hc, cond_true, Option.some.injEq, Prod.mk.injEq] at h
      obtain ⟨_, rfl⟩ := h
      exact (PureE.set _ (by simp [refsD])).pure
    | false =>
      simp only [hc, cond_false] at h
      obtain ⟨_, h⟩ := bif_some h
      simp only [Option.some.injEq, Prod.mk.injEq] at h
      obtain ⟨_, rfl⟩ := h
      exact (PureE.set _ (by simp [refsD])).pure
  · cases h

theorem Pure.of_E {a b c : Sto} {ts us : List Nat} (h : PureE a b ts) (k : Pure b c us) : Pure a c (us ++ ts) :=
  ⟨by rw [← h.1]; exact k.1, fun q hq hl => by rw [List.mem_append, not_or] at hq; exact (k.2 q hq.1 (by rw [h.1]; exact hl)).trans (h.2 q hq.2)⟩

theorem elemsW_pure {n : Nat} {σ σ' : Sto} {x : D} {ys : List (List V)} (h : elemsW n σ x = some (ys, σ')) : PureE σ σ' (refsD x) := by
  unfold elemsW at h
  split at h
  · obtain ⟨_, h⟩ := bif_some h
    simp only [Option.bind_eq_some_iff, Option.some.injEq, Prod.mk.injEq] at h
    obtain ⟨⟨vs, σ1⟩, h2, _, rfl⟩ := h
    simpa [refsD] using toVs_pure h2
  · simp only [Option.bind_eq_some_iff, Option.some.injEq, Prod.mk.injEq] at h
    obtain ⟨_, _, _, rfl⟩ := h
    exact .refl _ _

theorem ap_pure {m b : Nat} {s x d : D} {σ σ' : Sto} (h : ap m b s x σ = some (d, σ')) : Pure σ σ' (refsD s ++ refsD x) := by
  simp only [ap, Option.bind_eq_some_iff] at h
  obtain ⟨⟨ys, σ1⟩, h1, h⟩ := h
  exact .of_E (elemsW_pure h1) (appendTo_pure h)

theorem apZ_pure {m b : Nat} {z : List V} {s x d : D} {σ σ' : Sto} (h : apZ m b z s x σ = some (d, σ')) : Pure σ σ' (refsD s ++ refsD x) := by
  simp only [apZ, Option.bind_eq_some_iff] at h
  obtain ⟨n, h1, h⟩ := h
  exact .of_E (.refl _ _) (appendTo_pure h)

theorem clear_pure {m : Nat} {z : List V} {x d : D} {σ σ' : Sto} (h : clear m z x σ = some (d, σ')) : PureE σ σ' (rowsOf x) := by
  unfold clear at h
  split at h
  · obtain ⟨_, h⟩ := bif_some h
    simp only [Option.bind_eq_some_iff, Option.some.injEq, Prod.mk.injEq] at h
    obtain ⟨xs, _, _, rfl⟩ := h
    exact .set _ (by simp [rowsOf])
  · simp only [Option.some.injEq, Prod.mk.injEq] at h
    obtain ⟨_, rfl⟩ := h
    exact .refl _ _
  · cases h

theorem mu_pure {ks : List CK} {kag : Bool} {m k x : D} {σ σ' : Sto} (h : mu ks kag m k x σ = some σ') : PureE σ σ' (rowsOf m ++ refsD x) := by
  simp only [mu, Option.bind_eq_some_iff] at h
  obtain ⟨key, _, xc, h2, h⟩ := h
  split at h
  · rename_i r
    split at h
    · obtain ⟨_, h⟩ := bif_some h
      simp only [Option.bind_eq_some_iff, Option.some.injEq] at h
      obtain ⟨p, _, rfl⟩ := h
      exact (PureE.set (ts := [r]) _ (by simp)).weaken fun q hq => by simp [rowsOf] at hq ⊢; exact .inl hq
    · cases h
  · cases h

/-! ### Which rows are reached -/
theorem reach_ok {σ : Sto} : ∀ (n : Nat) (todo acc live : List Nat), reach σ n todo acc = some live → acc.Nodup →
    (∀ q ∈ acc, ∃ row, σ[q]? = some row ∧ ∀ p ∈ refsRow row, p ∈ acc ∨ p ∈ todo) →
    live.Nodup ∧ (∃ more, live = acc ++ more) ∧ (∀ q ∈ todo, q ∈ live) ∧ ∀ q ∈ live, ∃ row, σ[q]? = some row ∧ ∀ p ∈ refsRow row, p ∈ live
  | n, [], acc, live, h, hn, hc => by
    have : live = acc := by
      cases n <;> simp only [reach, Option.some.injEq] at h <;> exact h.symm
    subst this
    refine ⟨hn, ⟨[], by simp⟩, by simp, fun q hq => ?_⟩
    obtain ⟨row, h1, h2⟩ := hc q hq
    exact ⟨row, h1, fun p hp => (h2 p hp).resolve_right (by simp)⟩
  | 0, q :: todo, acc, live, h, _, _ => by simp [reach] at h
  | n + 1, q :: todo, acc, live, h, hn, hc => by
    simp only [reach] at h
    by_cases hq : q ∈ acc
    · have hb : acc.contains q = true := by simpa using hq
      rw [hb, cond_true] at h
      obtain ⟨h1, ⟨more, h2⟩, h3, h4⟩ := reach_ok n todo acc live h hn fun p hp => by
        obtain ⟨row, e1, e2⟩ := hc p hp
        refine ⟨row, e1, fun p' hp' => ?_⟩
        rcases e2 p' hp' with e | e
        · exact .inl e
        · rcases List.mem_cons.1 e with e | e
          · subst e; exact .inl hq
          · exact .inr e
      refine ⟨h1, ⟨more, h2⟩, fun p hp => ?_, h4⟩
      rcases List.mem_cons.1 hp with e | e
      · subst e; rw [h2]; simp [hq]
      · exact h3 p e
    · have hb : acc.contains q = false := by simpa using hq
      rw [hb, cond_false] at h
      split at h
      · rename_i row hσ
        obtain ⟨h1, ⟨more, h2⟩, h3, h4⟩ := reach_ok n (todo ++ refsRow row) (acc ++ [q]) live h
          (by rw [List.nodup_append]; exact ⟨hn, by simp, fun a ha b hb e => hq (by simp at hb; rw [← hb, ← e]; exact ha)⟩) fun p hp => by
            rcases List.mem_append.1 hp with hp | hp
            · obtain ⟨row', e1, e2⟩ := hc p hp
              refine ⟨row', e1, fun p' hp' => ?_⟩
              rcases e2 p' hp' with e | e
              · exact .inl (by simp [e])
              · rcases List.mem_cons.1 e with e | e
                · subst e; exact .inl (by simp)
                · exact .inr (by simp [e])
            · simp at hp
              subst hp
              exact ⟨row, hσ, fun p' hp' => .inr (by simp [hp'])⟩
        refine ⟨h1, ⟨q :: more, by rw [h2]; simp⟩, fun p hp => ?_, h4⟩
        rcases List.mem_cons.1 hp with e | e
        · subst e; rw [h2]; simp
        · exact h3 p (by simp [e])
      · cases h

/-- The rows that came in keep their names. -/
theorem reach_range {σ : Sto} {k : Nat} : ∀ (j i n : Nat) (rest live : List Nat), i + j = k → reach σ n (List.range' i j ++ rest) (List.range i) = some live → ∃ more, live = List.range k ++ more
  | 0, i, n, rest, live, hk, h => by
    simp only [Nat.add_zero] at hk
    subst hk
    rw [List.range'_zero, List.nil_append] at h
    -- only the beginning matters
    have : ∀ (n : Nat) (todo acc live : List Nat), reach σ n todo acc = some live → ∃ more, live = acc ++ more := by
      intro n
      induction n with
      | zero =>
        intro todo acc live h
        cases todo with
        | nil => simp only [reach, Option.some.injEq] at h; exact ⟨[], by simp [h]⟩
        | cons q todo => simp [reach] at h
      | succ n ih =>
        intro todo acc live h
        cases todo with
        | nil => simp only [reach, Option.some.injEq] at h; exact ⟨[], by simp [h]⟩
        | cons q todo =>
          simp only [reach] at h
          cases hb : acc.contains q with
          | true => rw [hb, cond_true] at h; exact ih _ _ _ h
          | false =>
            rw [hb, cond_false] at h
            split at h
            · obtain ⟨more, hm⟩ := ih _ _ _ h
              exact ⟨_, by rw [hm, List.append_assoc]⟩
            · cases h
    exact this _ _ _ _ h
  | j + 1, i, n, rest, live, hk, h => by
    rw [List.range'_succ, List.cons_append] at h
    cases n with
    | zero => simp [reach] at h
    | succ n =>
      simp only [reach] at h
      have hb : (List.range i).contains i = false := by simp
      rw [hb, cond_false] at h
      split at h
      · rw [List.append_assoc, ← List.range_succ] at h
        exact reach_range j (i + 1) n _ live (by omega) h
      · cases h

theorem idxOf_get : ∀ {live : List Nat} {q : Nat}, q ∈ live → live[idxOf q live]? = some q ∧ idxOf q live < live.length
  | [], q, h => by simp at h
  | x :: xs, q, h => by
    simp only [idxOf]
    by_cases e : x = q
    · subst e; simp
    · have hb : (x == q) = false := by simpa using e
      have hq : q ∈ xs := by
        rcases List.mem_cons.1 h with h | h
        · exact absurd h.symm e
        · exact h
      obtain ⟨h1, h2⟩ := idxOf_get hq
      rw [hb, cond_false]
      exact ⟨by simpa using h1, by simp; omega⟩

theorem idxOf_at : ∀ {live : List Nat} {j q : Nat}, live.Nodup → live[j]? = some q → idxOf q live = j
  | [], j, q, _, h => by simp at h
  | x :: xs, 0, q, _, h => by simp at h; subst h; simp [idxOf]
  | x :: xs, j + 1, q, hn, h => by
    have h' : xs[j]? = some q := by simpa using h
    rw [List.nodup_cons] at hn
    have hb : (x == q) = false := by
      have : q ∈ xs := List.mem_of_getElem? h'
      have : x ≠ q := fun e => hn.1 (e ▸ this)
      simpa using this
    simp only [idxOf, hb, cond_false, idxOf_at hn.2 h']

theorem rowsAt_ok : ∀ {σ : Sto} {live : List Nat} {rows : List Row}, rowsAt σ live = some rows → rows.length = live.length ∧ ∀ (j q : Nat), live[j]? = some q → rows[j]? = σ[q]?
  | σ, [], rows, h => by
    simp only [rowsAt, Option.some.injEq] at h
    subst h
    simp
  | σ, x :: xs, rows, h => by
    simp only [rowsAt, Option.bind_eq_some_iff, Option.some.injEq] at h
    obtain ⟨r, h1, rs, h2, rfl⟩ := h
    obtain ⟨h3, h4⟩ := rowsAt_ok h2
    refine ⟨by simp [h3], fun j q hj => ?_⟩
    cases j with
    | zero => simp at hj; subst hj; simp [h1]
    | succ j => simpa using h4 j q (by simpa using hj)

/-! ### Other names -/
structure Ren (X Y : Cx) (A : Nat → Prop) (ρ : Nat → Nat) : Prop where
  w : Y.w = X.w
  S : ∀ b o, X.S b o → Y.S b o
  L : ∀ q, A q → Y.L (ρ q) = X.L q
  τ : ∀ q, A q → Y.τ (ρ q) = (X.τ q).map (renRow ρ)

theorem RefOk.ren {X Y : Cx} {A : Nat → Prop} {ρ : Nat → Nat} (hr : Ren X Y A ρ) {r g : Nat} (ha : A r) {Q Q' : Nat → List (List V) → Prop} (h : RefOk X.τ r g Q) (hq : ∀ n xs, Q n xs → Q' n xs) : RefOk Y.τ (ρ r) g Q' := by
  obtain ⟨n, g', xs, h1, h2, h3⟩ := h
  refine ⟨n, g', xs, ?_, h2, fun e => hq _ _ (h3 e)⟩
  rw [hr.τ r ha]
  rcases h1 with h1 | h1
  · exact .inl (by rw [h1]; rfl)
  · exact .inr (by rw [h1]; rfl)

mutual
theorem DR.ren {X Y : Cx} {A : Nat → Prop} {ρ : Nat → Nat} (hr : Ren X Y A ρ) : ∀ {d : D} {u : Value}, (∀ b o, X.T b o → Y.T b o) ∨ noBor d = true → DR X d u → (∀ q ∈ refsD d, A q) → DR Y (renD ρ d) u
  | .v x, u, _, h, _ => by
    simp only [renD, DR] at h ⊢
    rw [hr.w]
    exact h.mono hr.S fun _ _ _ => rfl
  | .sl .imm n xs, u, _, h, _ => by
    simp only [renD, DR] at h ⊢
    obtain ⟨c, h⟩ := h
    exact ⟨c, by rw [hr.w]; exact h.mono hr.S (fun _ _ _ => rfl) hr.S fun _ _ _ => rfl⟩
  | .sl .full n xs, u, _, h, _ => by
    simp only [renD, DR] at h ⊢
    rw [hr.w]
    exact h.mono hr.S (fun _ _ _ => rfl) hr.S fun _ _ _ => rfl
  | .sl .bor n xs, u, hT, h, _ => by
    rcases hT with hT | hT
    · simp only [renD, DR] at h ⊢
      obtain ⟨c, h⟩ := h
      exact ⟨c, by rw [hr.w]; exact h.mono hT (fun _ _ _ => rfl) hr.S fun _ _ _ => rfl⟩
    · simp [noBor] at hT
  | .ds n cs, u, hT, h, hA => by
    rcases hT with hT | hT
    · simp only [renD, DR] at h ⊢
      obtain ⟨k, b, o, us, h1, h2, h3, h4, h5, h6⟩ := h
      refine ⟨k, b, o, us, h1, h2, by rw [renDs_length]; exact h3, fun j hj => ?_, by rw [renDs_length]; exact h5, DRs.ren hr (.inl hT) h6 (by simpa [refsD] using hA)⟩
      rw [renDs_length] at hj
      obtain ⟨e1, e2⟩ := h4 j hj
      exact ⟨hT _ _ e1, by rw [hr.w]; exact e2⟩
    · simp [noBor] at hT
  | .dp cs, u, hT, h, hA => by
    rcases hT with hT | hT
    · simp only [renD, DR] at h ⊢
      obtain ⟨b, o, us, h1, h4, h5, h6⟩ := h
      refine ⟨b, o, us, h1, fun j hj => ?_, by rw [renDs_length]; exact h5, DRs.ren hr (.inl hT) h6 (by simpa [refsD] using hA)⟩
      rw [renDs_length] at hj
      obtain ⟨e1, e2⟩ := h4 j hj
      exact ⟨hT _ _ e1, by rw [hr.w]; exact e2⟩
    · simp [noBor] at hT
  | .pp .bor cs, u, hT, h, _ => by
    rcases hT with hT | hT
    · simp only [renD, DR] at h ⊢
      rw [hr.w]
      exact h.mono hT (fun _ _ _ => rfl) hr.S fun _ _ _ => rfl
    · simp [noBor] at hT
  | .pp .imm cs, u, _, h, _ => by
    simp only [renD, DR] at h ⊢
    rw [hr.w]
    exact h.mono hr.S (fun _ _ _ => rfl) hr.S fun _ _ _ => rfl
  | .pp .full cs, u, _, h, _ => by
    simp only [renD, DR] at h ⊢
    rw [hr.w]
    exact h.mono hr.S (fun _ _ _ => rfl) hr.S fun _ _ _ => rfl
  | .ptr r o, u, _, h, hA => by
    have ha := hA r (by simp [refsD])
    simp only [renD, DR] at h ⊢
    obtain ⟨h1, row, h2, hp⟩ := h
    exact ⟨by rw [hr.L r ha]; exact h1, renRow ρ row, by rw [hr.τ r ha, h2]; rfl, by cases row <;> exact hp⟩
  | .ep r g i o, u, _, h, hA => by
    have ha := hA r (by simp [refsD])
    simp only [renD, DR] at h ⊢
    exact ⟨h.1, h.2.ren hr ha fun n xs hq => by rw [hr.L r ha]; exact hq⟩
  | .rs r g n off len, u, _, h, hA => by
    have ha := hA r (by simp [refsD])
    simp only [renD, DR] at h ⊢
    obtain ⟨a, c, h1, h2, h3, h4⟩ := h
    exact ⟨a, c, h1, h2, h3, h4.ren hr ha fun n xs hq => by rw [hr.L r ha]; exact hq⟩
  | .mp r, u, _, h, hA => by
    have ha := hA r (by simp [refsD])
    simp only [renD, DR] at h ⊢
    obtain ⟨h1, row, h2, h3⟩ := h
    exact ⟨by rw [hr.L r ha]; exact h1, _, by rw [hr.τ r ha, h2]; rfl, by cases row <;> exact h3⟩
  | .yl r, u, _, h, hA => by
    have ha := hA r (by simp [refsD])
    simp only [renD, DR] at h ⊢
    obtain ⟨h1, bz, hk, ps, as, b, E, h2⟩ := h
    exact ⟨by rw [hr.L r ha]; exact h1, bz, hk, ps, as, b, _, by rw [hr.τ r ha, h2]; rfl⟩
  | .clo f a b, u, hT, h, hA => by
    simp only [renD, DR] at h ⊢
    obtain ⟨xs, ys, h1, h2, h3, h4, h5⟩ := h
    simp only [refsD, List.mem_append] at hA
    refine ⟨xs, ys, h1, by rw [renDs_length]; exact h2, by rw [renDs_length]; exact h3, DRs.ren hr ?_ h4 fun q hq => hA q (.inl hq), DRs.ren hr ?_ h5 fun q hq => hA q (.inr hq)⟩
    · exact hT.imp id fun h => by simp [noBor] at h; exact h.1
    · exact hT.imp id fun h => by simp [noBor] at h; exact h.2
  | .ifc t d, u, hT, h, hA => by
    simp only [renD, DR] at h ⊢
    obtain ⟨v, h1, h2⟩ := h
    exact ⟨v, h1, DR.ren hr (hT.imp id fun h => by simpa [noBor] using h) h2 (by simpa [refsD] using hA)⟩
  | .agg cs, u, hT, h, hA => by
    simp only [renD, DR] at h ⊢
    obtain ⟨xs, h1, h2, h3, h4⟩ := h
    exact ⟨xs, h1, by rw [renDs_length]; exact h2, h3, DRs.ren hr (hT.imp id fun h => by simpa [noBor] using h) h4 (by simpa [refsD] using hA)⟩
  | .tup cs, u, hT, h, hA => by
    simp only [renD, DR] at h ⊢
    obtain ⟨xs, h1, h2, h4⟩ := h
    exact ⟨xs, h1, by rw [renDs_length]; exact h2, DRs.ren hr (hT.imp id fun h => by simpa [noBor] using h) h4 (by simpa [refsD] using hA)⟩
  | .val v, u, _, h, _ => by
    simp only [renD, DR] at h ⊢
    exact h
  | .undef, u, _, h, _ => by simp [renD, DR]
theorem DRs.ren {X Y : Cx} {A : Nat → Prop} {ρ : Nat → Nat} (hr : Ren X Y A ρ) : ∀ {ds : List D} {us : Nat → Value}, (∀ b o, X.T b o → Y.T b o) ∨ noBors ds = true → DRs X ds us → (∀ q ∈ refsDs ds, A q) → DRs Y (renDs ρ ds) us
  | [], us, _, _, _ => by simp [renDs, DRs]
  | d :: ds, us, hT, h, hA => by
    simp only [renDs, DRs] at h ⊢
    simp only [refsDs, List.mem_append] at hA
    refine ⟨DR.ren hr ?_ h.1 fun q hq => hA q (.inl hq), DRs.ren hr ?_ h.2 fun q hq => hA q (.inr hq)⟩
    · exact hT.imp id fun h => by simp [noBors] at h; exact h.1
    · exact hT.imp id fun h => by simp [noBors] at h; exact h.2
theorem renDs_length {ρ : Nat → Nat} : ∀ {ds : List D}, (renDs ρ ds).length = ds.length
  | [] => rfl
  | d :: ds => by simp [renDs, renDs_length (ds := ds)]
end

end Go.Ab

/- Operations, fourteenth part: a step of a range over a map; 'm[k] op= ..'. -/
namespace Go.Ab
open Go
variable [Globs]

theorem run_setObj_iter {P : Program} {w : World} {r : Nat} {a : Option Nat} {b : Nat} {c : Array Nat} {d : Nat} (o : Obj) (h : w.heap[r]? = some (.mapIter a b c d)) :
    (setObj r o).run P w = .ok () { w with heap := w.heap.setIfInBounds r o } := by simp [setObj, Sem.run, h]

theorem run_next_at {P : Program} {w : World} {it bm n : Nat} {seen : List Nat} {ents : Array MapEntry} (ty : TypeId) (hit : w.heap[it]? = some (.mapIter (some bm) n seen.toArray n)) (hm : w.heap[bm]? = some (.map ents n))
    (hsz : ents.size = n) (hb : ∀ (i : Nat) (e : MapEntry), ents[i]? = some e → e.born = i) :
    (leftAt n seen = [] ∧ (Instr.next (.pointer (some (at_ it 0))) false ty).run P w = .ok (.tuple #[.bool false]) w) ∨
    ∃ (j : Nat) (e : MapEntry) (w1 : World), j ∈ leftAt n seen ∧ ents[j]? = some e ∧ w1.heap = w.heap ∧ w1.os = w.os ∧ w1.tape = w.tape ∧ w1.output = w.output ∧ w.drawn ≤ w1.drawn ∧
      (Instr.next (.pointer (some (at_ it 0))) false ty).run P w = .ok (.tuple #[.bool true, e.key, e.val]) { w1 with heap := w1.heap.setIfInBounds it (.mapIter (some bm) n (seen ++ [j]).toArray n) } := by
  have hold : ∀ x ∈ ents.toList, x.born < n := fun x hx => by
    obtain ⟨i, hi⟩ := List.mem_iff_getElem?.1 hx
    have hi' : ents[i]? = some x := by simpa using hi
    rw [hb i x hi']
    have := (Array.getElem?_eq_some_iff.1 hi').1
    omega
  have hleft : ∀ j, j ∈ leftAt n seen ↔ j < n ∧ j ∉ seen := fun j => by simp [leftAt]
  simp only [Instr.next, at_, getObj, Sem.run_bind, Sem.run, hit, hm, Result.andThen, next_test_false seen.toArray ents n n hold (Nat.le_refl _), Bool.false_eq_true, if_false]
  have hmemL : ∀ x, x ∈ (Array.filter (fun e => !seen.toArray.contains e.born) ents).toList ↔ ∃ i, ents[i]? = some x ∧ i ∉ seen := fun x => by
    simp only [Array.toList_filter, List.mem_filter, Bool.not_eq_true', List.contains_toArray]
    constructor
    · rintro ⟨h1, h2⟩
      obtain ⟨i, hi⟩ := List.mem_iff_getElem?.1 h1
      have hi' : ents[i]? = some x := by simpa using hi
      rw [hb i x hi'] at h2
      exact ⟨i, hi', by simpa using h2⟩
    · rintro ⟨i, h1, h2⟩
      refine ⟨?_, by rw [hb i x h1]; simpa using h2⟩
      exact List.mem_of_getElem? (by simpa using h1)
  generalize Array.filter (fun e => !seen.toArray.contains e.born) ents = L at hmemL ⊢
  have hmem : ∀ x ∈ L.toList, x.born < n := fun x hx => by
    obtain ⟨i, h1, _⟩ := (hmemL x).1 hx
    exact hold x (List.mem_of_getElem? (by simpa using h1))
  have e1 : L.filter (fun x => decide (x.born < n)) = L := Array.filter_eq_self.2 (fun x hx => by simpa using hmem x (by simpa using hx))
  have e2 : L.filter (fun x => decide (x.born ≥ n)) = #[] := by
    rw [Array.filter_eq_empty_iff]
    intro x hx
    have := hmem x (by simpa using hx)
    simp
    omega
  simp only [e1, e2, Array.append_empty]
  by_cases hz : L.size = 0
  · left
    have : L = #[] := Array.eq_empty_of_size_eq_zero hz
    subst this
    refine ⟨?_, ?_⟩
    · rw [List.eq_nil_iff_forall_not_mem]
      intro j hj
      obtain ⟨h1, h2⟩ := (hleft j).1 hj
      have := (hmemL (ents[j]'(by omega))).2 ⟨j, Array.getElem?_eq_getElem (by omega), h2⟩
      simp at this
    · simp [choose, Sem.run, Question.forced]
  · right
    have hne : L.isEmpty = false := by simp [Array.isEmpty, hz]
    simp only [hne, Bool.false_eq_true, if_false, Array.empty_append, Array.size_map]
    have hch : ∃ (j : Nat) (w1 : World), j < L.size ∧ w1.heap = w.heap ∧ w1.os = w.os ∧ w1.tape = w.tape ∧ w1.output = w.output ∧ w.drawn ≤ w1.drawn ∧ (choose (Question.mapNext L.size)).run P w = .ok j w1 := by
      by_cases hf : L.size ≤ 1
      · exact ⟨0, w, by omega, rfl, rfl, rfl, rfl, Nat.le_refl _, by simp [choose, Sem.run, Question.forced, hf]⟩
      · exact ⟨_, w.drew, Nat.mod_lt _ (by omega), rfl, rfl, rfl, rfl, Nat.le_succ _, by
          simp only [choose, Sem.run, Question.forced, decide_eq_true_eq, hf, if_false, Question.cut]
          rfl⟩
    obtain ⟨k, w1, hk, g1, g2, g3, g4, g5, hrun⟩ := hch
    obtain ⟨j, h1, h2⟩ := (hmemL L[k]).1 (by simp)
    refine ⟨j, L[k], w1, (hleft j).2 ⟨?_, h2⟩, h1, g1, g2, g3, g4, g5, ?_⟩
    · have := (Array.getElem?_eq_some_iff.1 h1).1
      omega
    · have hit1 : w1.heap[it]? = some (.mapIter (some bm) n seen.toArray n) := by rw [g1]; exact hit
      have hborn : L[k].born = j := hb j _ h1
      simp only [hrun, Array.getElem?_map, Array.getElem?_eq_getElem hk, Option.map_some, Sem.run_bind, run_setObj_iter _ hit1, Result.andThen, hborn, List.push_toArray]
      rfl

theorem nx_pure {x d : D} {σ σ' : Sto} {r m : Nat} (h : nx x σ = some (d, σ', r, m)) : PureE σ σ' [r, m] := by
  unfold nx at h
  split at h
  · split at h
    · split at h
      · obtain ⟨_, h⟩ := bif_some h
        split at h
        · simp only [Option.some.injEq, Prod.mk.injEq] at h
          obtain ⟨_, rfl, rfl, rfl⟩ := h
          exact .refl _ _
        · simp only [Option.bind_eq_some_iff, Option.some.injEq, Prod.mk.injEq] at h
          obtain ⟨_, _, _, _, _, _, _, rfl, rfl, rfl⟩ := h
          exact .set _ (by simp)
        · cases h
      · cases h
    · cases h
  · cases h

theorem me_pure {ks : List CK} {kag zag : Bool} {z : List V} {m k d : D} {σ σ' : Sto} (h : me ks kag z zag m k σ = some (d, σ')) : PureE σ σ' (rowsOf m) := by
  simp only [me, Option.bind_eq_some_iff] at h
  obtain ⟨_, _, h⟩ := h
  split at h
  · split at h
    · obtain ⟨_, h⟩ := bif_some h
      simp only [Option.bind_eq_some_iff] at h
      obtain ⟨p, _, h⟩ := h
      split at h
      · simp only [Option.bind_eq_some_iff, Option.some.injEq, Prod.mk.injEq] at h
        obtain ⟨_, _, _, _, _, rfl⟩ := h
        exact .set _ (by simp [rowsOf])
      · obtain ⟨_, h⟩ := bif_some h
        simp only [Option.bind_eq_some_iff, Option.some.injEq, Prod.mk.injEq] at h
        obtain ⟨_, _, _, rfl⟩ := h
        exact .set _ (by simp [rowsOf])
    · cases h
  · cases h

theorem es_pure {m k x : D} {σ σ' : Sto} (h : es_ m k x σ = some σ') : PureE σ σ' (rowsOf m) := by
  simp only [es_, Option.bind_eq_some_iff] at h
  obtain ⟨_, _, _, _, h⟩ := h
  split at h
  · split at h
    · obtain ⟨_, h⟩ := bif_some h
      simp only [Option.bind_eq_some_iff, Option.some.injEq] at h
      obtain ⟨_, _, rfl⟩ := h
      exact .set _ (by simp [rowsOf])
    · cases h
  · cases h

section
variable {P : Program} {o : Oper} {X : Cx} {a : Act} (hX : StoR X)
include hX

/-- A step of a range: nothing is left; or some entry comes. -/
theorem sim_next {x : Operand} (ho : o.op = .next x false) {r m n : Nat} {seen : List Nat} {ka va : Bool} {es : List (List V × List D)} (hx : DR X (.ptr r 0) (a.eval x)) (hr : X.τ r = some (.iter m n seen)) {mrow : Row} (hm : X.τ m = some mrow) (hmr0 : rowMap mrow = some (ka, va, es)) (hn : es.length = n) :
    Sim P o X a (fun X' u => (leftAt n seen = [] ∧ u = .tuple #[.bool false] ∧ X'.τ = X.τ) ∨
      ∃ (j : Nat) (e : List V × List D) (ku vu : Value), j ∈ leftAt n seen ∧ es[j]? = some e ∧ u = .tuple #[.bool true, ku, vu] ∧ CellsR X'.w X'.S ka e.1 ku ∧ PkR X' va e.2 vu ∧ X'.τ = upd1 X.τ r (some (.iter m n (seen ++ [j])))) := by
  obtain ⟨i1, _, i2, _⟩ := hX.rows r _ hr
  obtain ⟨ents, e1, e2, e3⟩ := (hX.rows m _ hm).maps hmr0
  simp only [DR] at hx
  subst hn
  have hb : ∀ (i : Nat) (e : MapEntry), ents[i]? = some e → e.born = i := fun i e hi => by
    have hlt : i < es.length := by rw [← e2]; exact (Array.getElem?_eq_some_iff.1 hi).1
    obtain ⟨en, q1, q2, _⟩ := e3 i es[i] (List.getElem?_eq_getElem hlt)
    rw [hi] at q1
    cases q1
    exact q2
  rcases run_next_at (P := P) o.type i1 e1 e2 hb with ⟨h1, h2⟩ | ⟨j, e, w1, h1, h2, g1, g2, g3, g4, g5, h3⟩
  · exact Sim.value (X' := X) (u := .tuple #[.bool false]) (by simp [execOp, ho, hx.1, h2]) (Ext.refl X) hX (.inl ⟨h1, rfl, rfl⟩)
  · have hj : j < es.length := by rw [← e2]; exact (Array.getElem?_eq_some_iff.1 h2).1
    obtain ⟨en, q1, _, q3, q4⟩ := e3 j es[j] (List.getElem?_eq_getElem hj)
    rw [h2] at q1
    cases q1
    have htch : Touched X.w { w1 with heap := w1.heap.setIfInBounds (X.L r).block (.mapIter (some (X.L m).block) es.length (seen ++ [j]).toArray es.length) } (X.L r).block :=
      ⟨fun k hk => by show (w1.heap.setIfInBounds _ _)[k]? = _; rw [g1, Array.getElem?_setIfInBounds_ne (Ne.symm hk)], by show (w1.heap.setIfInBounds _ _).size = _; rw [g1, Array.size_setIfInBounds], g2, g3, g4, g5⟩
    have he := turn_ext (row' := .iter m es.length (seen ++ [j])) htch hr trivial trivial (.iter _ _ _ _ _ _)
    have hmr : m ≠ r := fun e => by
      rw [e, hr] at hm
      cases hm
      cases hmr0
    have hlt : (X.L r).block < w1.heap.size := by rw [g1]; exact (Array.getElem?_eq_some_iff.1 i1).1
    have hsto := turn_sto (row' := .iter m es.length (seen ++ [j])) hX htch hr trivial trivial (.iter _ _ _ _ _ _)
      ⟨by show (w1.heap.setIfInBounds _ _)[(X.L r).block]? = _; simp [hlt, Cx.turn], mrow, by show upd1 X.τ r _ m = _; rw [upd1_ne _ _ hmr]; exact hm, rowMap_isMap hmr0⟩
    refine Sim.value (X' := X.turn _ r (.iter m es.length (seen ++ [j]))) (u := .tuple #[.bool true, e.key, e.val]) ?_ he hsto (.inr ⟨j, es[j], e.key, e.val, h1, List.getElem?_eq_getElem hj, rfl, q3.mono he.S (he.cellS hX), q4.ext hX he, rfl⟩)
    simp [execOp, ho, hx.1, h3]
    rfl

theorem sim_nx {σ σ' : Sto} {x : Operand} (ho : o.op = .next x false) {dx d : D} {r m : Nat} (hx : DR X dx (a.eval x)) (hτ : ∀ q ∈ [r, m], X.τ q = σ[q]?) (h : nx dx σ = some (d, σ', r, m)) :
    Sim P o X a (fun X' u => DR X' d u ∧ X'.τ = fun q => if q ∈ [r, m] then σ'[q]? else X.τ q) := by
  unfold nx at h
  split at h
  · rename_i r'
    split at h
    · rename_i m' n seen hσ
      split at h
      · rename_i ka va es hσ'
        cases hc : (es.length == n) with
        | false => simp [hc] at h
        | true =>
          have hn : es.length = n := by simpa using hc
          simp only [hc, cond_true] at h
          have same : (fun q => if q ∈ [r, m] then σ[q]? else X.τ q) = X.τ := by
            funext q
            by_cases hq : q ∈ [r, m]
            · rw [if_pos hq, hτ q hq]
            · rw [if_neg hq]
          split at h
          · rename_i hl
            simp only [Option.some.injEq, Prod.mk.injEq] at h
            obtain ⟨rfl, rfl, rfl, rfl⟩ := h
            have t1 : X.τ r' = some (.iter m' n seen) := by rw [hτ r' (by simp), hσ]
            obtain ⟨mrow, hσ1, hσ2⟩ := mapAt hσ'
            have t2 : X.τ m' = some mrow := by rw [hτ m' (by simp), hσ1]
            refine (sim_next hX ho hx t1 t2 hσ2 hn).mono fun X' u hp => ?_
            rcases hp with ⟨_, rfl, h2⟩ | ⟨j, e, ku, vu, hj, _⟩
            · refine ⟨?_, h2.trans same.symm⟩
              simp only [DR]
              refine ⟨_, rfl, rfl, ?_⟩
              simp only [DRs, DR]
              exact ⟨.bool false, trivial⟩
            · rw [hl] at hj
              cases hj
          · rename_i j hl
            simp only [Option.bind_eq_some_iff, Option.some.injEq, Prod.mk.injEq] at h
            obtain ⟨e, h1, dk, h2, dv, h3, rfl, rfl, rfl, rfl⟩ := h
            have t1 : X.τ r' = some (.iter m' n seen) := by rw [hτ r' (by simp), hσ]
            obtain ⟨mrow, hσ1, hσ2⟩ := mapAt hσ'
            have t2 : X.τ m' = some mrow := by rw [hτ m' (by simp), hσ1]
            have hlt : r' < σ.length := (List.getElem?_eq_some_iff.1 hσ).1
            refine (sim_next hX ho hx t1 t2 hσ2 hn).mono fun X' u hp => ?_
            rcases hp with ⟨hno, _⟩ | ⟨j', e', ku, vu, hj, he, rfl, hk, hv, h4⟩
            · rw [hl] at hno
              cases hno
            · rw [hl] at hj
              simp only [List.mem_singleton] at hj
              subst hj
              rw [h1] at he
              cases he
              have hdk : DR X' dk ku := pack_has hk h2
              obtain ⟨dv', hv1, hv2⟩ := hv
              rw [h3] at hv1
              cases hv1
              refine ⟨?_, ?_⟩
              · simp only [DR]
                refine ⟨_, rfl, rfl, ?_⟩
                simp only [DRs, DR]
                exact ⟨.bool true, by simpa using hdk, by simpa using hv2, trivial⟩
              · rw [h4]
                funext q
                by_cases e : q = r'
                · subst e
                  rw [upd1_same, if_pos (by simp), List.getElem?_set_self hlt]
                · rw [upd1_ne _ _ e]
                  by_cases hq : q ∈ [r', m']
                  · rw [if_pos hq, List.getElem?_set_ne (Ne.symm e)]
                    exact hτ q hq
                  · rw [if_neg hq]
          · cases h
      · cases h
    · cases h
  · cases h

theorem sim_mapEntry {σ σ' : Sto} {t kt e : TypeId} {x k : Operand} (ho : o.op = .mapEntry t x k) {dm dk d : D} (hm : DR X dm (a.eval x)) (hk : DR X dk (a.eval k)) (ht : P.underlying t = some (.map kt e))
    {ks : List CK} (hks : plainKinds P 10 kt = some ks) {kag : Bool} (hka : isAgg? P kt = some kag) {z : List V} (hz : zero? P e = some z) {ag : Bool} (hag : zeroAg? P e = some ag) (hτ : ∀ r ∈ rowsOf dm, X.τ r = σ[r]?)
    (h : me ks kag z ag dm dk σ = some (d, σ')) :
    Sim P o X a (fun X' u => DR X' d u ∧ X'.τ = fun q => if q ∈ rowsOf dm then σ'[q]? else X.τ q) := by
  simp only [me, Option.bind_eq_some_iff] at h
  obtain ⟨key, h1, h4⟩ := h
  obtain ⟨hkey, r0, hr0⟩ := keyOf_ok hk h1
  have hlen : (key.map D.v).length = ks.length := (eqCells_length _ _ _ _ hr0).1
  split at h4
  · rename_i q
    split at h4
    · rename_i ka va es hσ
      cases hc : (ka == kag) with
      | false => simp [hc] at h4
      | true =>
        have hka' : ka = kag := by simpa using hc
        subst hka'
        simp only [hc, cond_true, Option.bind_eq_some_iff] at h4
        obtain ⟨p, h5, h6⟩ := h4
        have hτ1 : X.τ q = some (.map ka va es) := by rw [hτ q (by simp [rowsOf]), hσ]
        have hlt : q < σ.length := (List.getElem?_eq_some_iff.1 hσ).1
        simp only [DR] at hm
        obtain ⟨ents, e1, e2, e3⟩ := hX.rows q _ hτ1
        have hobj : (getObj (X.L q).block).run P X.w = .ok (.map ents es.length) X.w := by simp [getObj, Sem.run, e1]
        have hck : (Instr.checkKey false 10000 kt (a.eval k)).run P X.w = .ok () X.w := checkKey_ok 10 kt ks hks 10000 (by decide) ka hka _ _ (HasR_v.2 hkey) hlen
        obtain ⟨r, hf, hfd⟩ := findKey_ok (X := X) (va := va) hks hka hkey (es := es) (ents := ents.toList) (p := p) (by simpa using e2)
          (fun i e hi => by obtain ⟨m, h7, _, h8, h9⟩ := e3 i e hi; exact ⟨m, by simpa using h7, h8, h9⟩) h5
        -- the row behind it
        have put : ∀ (es' : List (List V × List D)) (ents' : Array MapEntry) (u : Value), σ' = σ.set q (.map ka va es') → ents'.size = es'.length →
            (∀ (i : Nat) (e : List V × List D), es'[i]? = some e → ∃ m : MapEntry, ents'[i]? = some m ∧ m.born = i ∧ CellsR X.w X.S ka e.1 m.key ∧ PkR X va e.2 m.val) → DR X d u →
            (Instr.mapEntry t (.map (some (X.L q).block)) (a.eval k)).run P X.w = .ok u { X.w with heap := X.w.heap.setIfInBounds (X.L q).block (.map ents' es'.length) } →
            Sim P o X a (fun X' u => DR X' d u ∧ X'.τ = fun q' => if q' ∈ rowsOf (.mp q) then σ'[q']? else X.τ q') := by
          intro es' ents' u hσ' hs hm' hd hrun
          have htch : Touched X.w { X.w with heap := X.w.heap.setIfInBounds (X.L q).block (.map ents' es'.length) } (X.L q).block :=
            ⟨fun b hb => (MapKept.heap_set e1).2 b hb, by simp, rfl, rfl, rfl, Nat.le_refl _⟩
          have he := turn_ext (row' := .map ka va es') htch hτ1 trivial trivial (.map _ _ _ _ _)
          have hsto := turn_sto (row' := .map ka va es') hX htch hτ1 trivial trivial (.map _ _ _ _ _)
            ⟨ents', (MapKept.heap_set e1).1, hs, fun i e hi => by
              obtain ⟨m, m1, mb, m2, m3⟩ := hm' i e hi
              exact ⟨m, m1, mb, m2.mono he.S (he.cellS hX), m3.ext hX he⟩⟩
          refine Sim.value (X' := X.turn _ q (.map ka va es')) (u := u) ?_ he hsto ⟨hd.ext hX he, ?_⟩
          · simp [execOp, ho, hm.1, hrun]
            rfl
          · funext q'
            show upd1 X.τ q _ q' = _
            by_cases e : q' = q
            · subst e
              rw [upd1_same, if_pos (by simp [rowsOf]), hσ', List.getElem?_set_self hlt]
            · rw [upd1_ne _ _ e, if_neg (by simpa [rowsOf] using e)]
        have tup : ∀ (d0 : D) (u0 : Value) (n : Nat), DR X d0 u0 → DR X (.tup [d0, .v (.int .i64 n)]) (.tuple #[u0, goInt n]) := fun d0 u0 n h0 => by
          simp only [DR]
          refine ⟨_, rfl, rfl, ?_⟩
          simp only [DRs, DR]
          exact ⟨by simpa using h0, by simpa [goInt] using VR.int (w := X.w) (S := X.S) .i64 n, trivial⟩
        cases p with
        | none =>
          have : r = none := hfd
          subst this
          obtain ⟨hva, h6'⟩ := bif_some h6
          have hva : va = ag := by simpa using hva
          subst hva
          simp only [Option.bind_eq_some_iff, Option.some.injEq, Prod.mk.injEq] at h6'
          replace h6 := h6'
          clear h6'
          obtain ⟨dz, h7, rfl, rfl⟩ := h6
          obtain ⟨uz, hz1, hz2⟩ := zero_has (P := P) (w := X.w) (S := X.S) hz hag
          refine put _ (ents.push { key := a.eval k, val := uz, born := es.length }) (.tuple #[uz, goInt es.length]) rfl (by simp [e2]) ?_ (tup dz uz es.length (pack_has hz2 h7)) ?_
          · intro i e hi
            by_cases hlt : i < es.length
            · rw [List.getElem?_append_left hlt] at hi
              obtain ⟨m, m1, m2⟩ := e3 i e hi
              exact ⟨m, by rw [Array.getElem?_push, if_neg (by omega)]; exact m1, m2⟩
            · rw [List.getElem?_append_right (by omega)] at hi
              have hi0 : i - es.length = 0 := by
                have := (List.getElem?_eq_some_iff.1 hi).1
                simp at this
                omega
              rw [hi0] at hi
              simp only [List.getElem?_cons_zero, Option.some.injEq] at hi
              subst hi
              exact ⟨_, by rw [Array.getElem?_push, if_pos (by omega)], by show es.length = i; omega, hkey, ⟨dz, h7, pack_has hz2 h7⟩⟩
          · simp [Instr.mapEntry, run_under X.w ht, hobj, hck, hf, hz1, MapKept.run_setObj_map _ e1]
        | some i =>
          simp only [Option.bind_eq_some_iff, Option.some.injEq, Prod.mk.injEq] at h6
          obtain ⟨en, h7, dv, h8, rfl, rfl⟩ := h6
          obtain ⟨m, h9, rfl⟩ := hfd
          have h9' : ents[i]? = some m := by simpa using h9
          obtain ⟨en', h10, h11⟩ := posOf_lt h5
          rw [h7] at h10
          cases h10
          obtain ⟨m', h12, hb12, h13, h14⟩ := e3 i en h7
          have : m' = m := by rw [h9'] at h12; exact (Option.some.inj h12).symm
          subst this
          obtain ⟨dv', h15, h16⟩ := h14
          have : dv' = dv := by rw [h8] at h15; exact (Option.some.inj h15).symm
          subst this
          have hst := keyStays (P := P) (X := X) h11 hkey h13
          refine put (es.set i (key, en.2)) (ents.modify i fun e => { e with key := a.eval k }) (.tuple #[m'.val, goInt i]) rfl (by simp [e2]) ?_ (tup dv' m'.val i h16) ?_
          · intro j e hj
            by_cases hij : i = j
            · subst hij
              rw [List.getElem?_set_self (List.getElem?_eq_some_iff.1 h7).1] at hj
              simp only [Option.some.injEq] at hj
              subst hj
              exact ⟨{ m' with key := a.eval k }, by simp [Array.getElem?_modify, h9'], hb12, hkey, ⟨dv', h8, h16⟩⟩
            · rw [List.getElem?_set_ne hij] at hj
              obtain ⟨m, m1, m2⟩ := e3 j e hj
              exact ⟨m, by simp [Array.getElem?_modify, hij, m1], m2⟩
          · simp [Instr.mapEntry, run_under X.w ht, hobj, hck, hf, h9', hst, hb12, MapKept.run_setObj_map _ e1]
    · cases h4
  · cases h4

theorem sim_entryStore {σ σ' : Sto} {t : TypeId} {x k y : Operand} (ho : o.op = .entryStore t x k y) {dm dk dx : D} (hm : DR X dm (a.eval x)) (hk : DR X dk (a.eval k)) (hx : DR X dx (a.eval y)) (hτ : ∀ r ∈ rowsOf dm, X.τ r = σ[r]?)
    (h : es_ dm dk dx σ = some σ') :
    Sim P o X a (fun X' _ => X'.τ = fun q => if q ∈ rowsOf dm then σ'[q]? else X.τ q) := by
  simp only [es_, Option.bind_eq_some_iff] at h
  obtain ⟨i, h1, xc, h2, h4⟩ := h
  split at h4
  · rename_i q
    split at h4
    · rename_i ka va es hσ
      obtain ⟨hva, h4⟩ := bif_some h4
      have hva : va = isAggD dx := by simpa using hva
      subst hva
      simp only [Option.bind_eq_some_iff, Option.some.injEq] at h4
      obtain ⟨en, h5, rfl⟩ := h4
      have hτ1 : X.τ q = some (.map ka (isAggD dx) es) := by rw [hτ q (by simp [rowsOf]), hσ]
      have hlt : q < σ.length := (List.getElem?_eq_some_iff.1 hσ).1
      simp only [DR] at hm
      obtain ⟨ents, e1, e2, e3⟩ := hX.rows q _ hτ1
      have hobj : (getObj (X.L q).block).run P X.w = .ok (.map ents es.length) X.w := by simp [getObj, Sem.run, e1]
      have hval : PkR X (isAggD dx) xc (a.eval y) := by
        refine ⟨dx, ?_, hx⟩
        cases dx <;> simp only [D.cells?, Option.some.injEq, reduceCtorEq] at h2 <;> subst h2 <;> rfl
      obtain ⟨m0, g1, g2, g3, g4⟩ := e3 i en h5
      have hfind : ents.findIdx? (fun e => (e.born : Int) == (i : Int)) = some i := by
        rw [Array.findIdx?_eq_some_iff_getElem]
        refine ⟨(Array.getElem?_eq_some_iff.1 g1).1, ?_, fun j hj => ?_⟩
        · have := (Array.getElem?_eq_some_iff.1 g1).2
          rw [this, g2]
          simp
        · have hjl : j < es.length := by
            have := (Array.getElem?_eq_some_iff.1 g1).1
            omega
          obtain ⟨m1, k1, k2, _⟩ := e3 j es[j] (List.getElem?_eq_getElem hjl)
          have := (Array.getElem?_eq_some_iff.1 k1).2
          rw [this, k2]
          simp
          omega
      have hstamp : (asInt (a.eval k)).run P X.w = .ok (i : Int) X.w := by
        unfold natOf at h1
        split at h1
        · rename_i kk n
          obtain ⟨hn, h1⟩ := bif_some h1
          simp only [Option.some.injEq] at h1
          simp only [DR] at hk
          generalize hu : a.eval k = uk at hk
          cases hk
          have : (i : Int) = n := by
            rw [← h1]
            exact Int.toNat_of_nonneg (by simpa using hn)
          rw [this]
          simp [asInt, asIntOf]
        · cases h1
      let es' := es.set i (en.1, xc)
      let ents' := ents.modify i fun e => { e with val := a.eval y }
      have hes : es'.length = es.length := by simp [es']
      have htch : Touched X.w { X.w with heap := X.w.heap.setIfInBounds (X.L q).block (.map ents' es.length) } (X.L q).block :=
        ⟨fun b hb => (MapKept.heap_set e1).2 b hb, by simp, rfl, rfl, rfl, Nat.le_refl _⟩
      have he := turn_ext (row' := .map ka (isAggD dx) es') htch hτ1 trivial trivial (.map _ _ _ _ _)
      have hsto := turn_sto (row' := .map ka (isAggD dx) es') hX htch hτ1 trivial trivial (.map _ _ _ _ _)
        ⟨ents', by rw [hes]; exact (MapKept.heap_set e1).1, by simp [ents', es', e2], fun j e hj => by
          have hh : ∃ m : MapEntry, ents'[j]? = some m ∧ m.born = j ∧ CellsR X.w X.S ka e.1 m.key ∧ PkR X (isAggD dx) e.2 m.val := by
            by_cases hij : i = j
            · subst hij
              have hj' : (es.set i (en.1, xc))[i]? = some e := hj
              rw [List.getElem?_set_self (List.getElem?_eq_some_iff.1 h5).1] at hj'
              simp only [Option.some.injEq] at hj'
              subst hj'
              exact ⟨{ m0 with val := a.eval y }, by simp [ents', Array.getElem?_modify, g1], g2, g3, hval⟩
            · have hj' : (es.set i (en.1, xc))[j]? = some e := hj
              rw [List.getElem?_set_ne hij] at hj'
              obtain ⟨m, m1, m2⟩ := e3 j e hj'
              exact ⟨m, by simp [ents', Array.getElem?_modify, hij, m1], m2⟩
          obtain ⟨m, m1, mb, m2, m3⟩ := hh
          exact ⟨m, m1, mb, m2.mono he.S (he.cellS hX), m3.ext hX he⟩⟩
      refine Sim.skip (X' := X.turn _ q (.map ka (isAggD dx) es')) ?_ he hsto ?_
      · simp [execOp, ho, hm.1, Instr.entryStore, hobj, hstamp, hfind, MapKept.run_setObj_map _ e1, ents']
        rfl
      · funext q'
        show upd1 X.τ q _ q' = _
        by_cases e : q' = q
        · subst e
          rw [upd1_same, if_pos (by simp [rowsOf]), List.getElem?_set_self hlt]
        · rw [upd1_ne _ _ e, if_neg (by simpa [rowsOf] using e)]
    · cases h4
  · cases h4
end

end Go.Ab

/- A slice and nil; the bytes of a string. -/
namespace Go.Ab
open Go
variable [Globs]
variable {P : Program} {o : Oper} {X : Cx} {a : Act}

theorem eqInNil {T e : TypeId} (hT : P.underlying T = some (.slice e)) (dep : Nat) (ad : Option Addr) (k c : Nat) (w : World) : (Op.equalIn (dep + 1) T (.slice ad k c) (.slice none 0 0)).run P w = .ok ad.isNone w := by
  cases ad <;> simp [Op.equalIn, run_under w hT]
theorem eqNil {T e : TypeId} (hT : P.underlying T = some (.slice e)) (ad : Option Addr) (k c : Nat) (w : World) : (Op.equal T (.slice ad k c) (.slice none 0 0)).run P w = .ok ad.isNone w :=
  eqInNil hT 9999 ad k c w

theorem isNilSl_ok {d : D} {u : Value} (hd : DR X d u) {b : Bool} (h : isNilSl d = some b) : ∃ ad k c, u = .slice ad k c ∧ ad.isNone = b := by
  unfold isNilSl at h
  split at h
  · cases h
    simp only [DR] at hd
    cases hd
    exact ⟨none, 0, 0, rfl, rfl⟩
  · rename_i r g n off len
    obtain ⟨hb, h⟩ := bif_some h
    cases h
    simp only [DR] at hd
    obtain ⟨a, c, h1, _, h2, _⟩ := hd
    obtain ⟨b, o, e⟩ := h2 (by rw [Nat.blt_eq] at hb; exact hb)
    exact ⟨a, _, c, h1, by rw [e]; rfl⟩
  · rename_i t m x xs
    cases h
    have hs : ∃ c T, SlR X.w T X.S m (x :: xs) c u := by
      cases t <;> simp only [DR] at hd
      · obtain ⟨c, h⟩ := hd; exact ⟨c, _, h⟩
      · obtain ⟨c, h⟩ := hd; exact ⟨c, _, h⟩
      · exact ⟨_, _, hd⟩
    obtain ⟨c, T, a, b, o, us, h1, h2, _⟩ := hs
    exact ⟨a, _, c, h1, by rw [h2 (by simp)]; rfl⟩
  · cases h

theorem sim_nilCmp (hX : StoR X) {op : BinOp} {t ty e : TypeId} {x y : Operand} (ho : o.op = .binOp op t x y ty) {dx d : D} (hx : DR X dx (a.eval x)) (hy : DR X (.v .nils) (a.eval y))
    (ht : P.underlying t = some (.slice e)) {b : Bool} (h1 : isNilSl dx = some b) (h2 : eqOp op b = some d) : Sim P o X a (fun X' u => DR X' d u ∧ X'.τ = X.τ) := by
  obtain ⟨ad, k, c, e1, e2⟩ := isNilSl_ok hx h1
  have e3 : a.eval y = .slice none 0 0 := by
    generalize a.eval y = uy at hy
    simp only [DR] at hy
    cases hy
    rfl
  have heq := eqNil ht ad k c X.w
  cases op <;> simp only [eqOp, Option.some.injEq, reduceCtorEq] at h2
  · subst h2
    refine Sim.value (X' := X) (u := .bool b) ?_ (Ext.refl X) hX ⟨by simp only [DR]; exact .bool b, rfl⟩
    simp [execOp, ho, e1, e3, eqGuard, binOp, heq, e2]
  · subst h2
    refine Sim.value (X' := X) (u := .bool (!b)) ?_ (Ext.refl X) hX ⟨by simp only [DR]; exact .bool _, rfl⟩
    simp [execOp, ho, e1, e3, eqGuard, binOp, heq, e2]

theorem run_eqArr2 {t e : TypeId} {k q q' : IntKind} (ht : P.underlying t = some (.array 2 e)) (he : P.underlying e = some (.int k)) (hs : size? P e = some 1) (dd : Nat) (a b c d : Int) (w : World) :
    (Op.equalIn (dd + 2) t (.agg #[.int q a, .int q' b]) (.agg #[.int q c, .int q' d])).run P w = .ok (a == c && b == d) w := by
  have hag : isAgg? P e = some false := by simp [isAgg?, he]
  have hp : ∀ (xs : Array Value) (off : Nat) (v : Value), xs[off]? = some v → (part e xs off).run P w = .ok v w := fun xs off v hv => by
    simp [part, run_isAgg w hag, hv]
  have e0 : (Op.equalIn (dd + 1) e (.int q a) (.int q c)).run P w = .ok (a == c) w := run_equalIn_int w dd e q k a c he
  have e1 : (Op.equalIn (dd + 1) e (.int q' b) (.int q' d)).run P w = .ok (b == d) w := run_equalIn_int w dd e q' k b d he
  have p0 := hp #[.int q a, .int q' b] 0 _ rfl
  have p1 := hp #[.int q a, .int q' b] 1 _ rfl
  have p2 := hp #[.int q c, .int q' d] 0 _ rfl
  have p3 := hp #[.int q c, .int q' d] 1 _ rfl
  rw [show dd + 2 = (dd + 1) + 1 from rfl, Op.equalIn]
  simp only [Sem.run_bind, run_under w ht, Result.andThen_ok, run_size w hs]
  simp [List.range', Sem.run_bind, p0, p1, p2, p3, e0, e1]
  by_cases h1 : a = c
  · subst h1
    by_cases h2 : b = d
    · subst h2; simp
    · simp [h2]
  · simp [h1]
theorem sim_arr2 (hX : StoR X) {op : BinOp} {t ty e : TypeId} {k : IntKind} {x y : Operand} (ho : o.op = .binOp op t x y ty) {dx d : D} {ys : List D} (hx : DR X dx (a.eval x)) (hy : DR X (.agg ys) (a.eval y))
    (ht : P.underlying t = some (.array 2 e)) (he : P.underlying e = some (.int k)) (hs : size? P e = some 1) {b : Bool} (h1 : arr2 dx ys = some b) (h2 : eqOp op b = some d) : Sim P o X a (fun X' u => DR X' d u ∧ X'.τ = X.τ) := by
  have two : ∀ {d0 d1 : D} {u : Value}, DR X (.agg [d0, d1]) u → ∃ v0 v1, u = .agg #[v0, v1] ∧ DR X d0 v0 ∧ DR X d1 v1 := fun {d0 d1 u} h => by
    simp only [DR] at h
    obtain ⟨xs, rfl, h1, _, h3⟩ := h
    simp only [DRs] at h3
    have hsz : xs.size = 2 := h1
    refine ⟨xs.getD 0 undef, xs.getD 1 undef, ?_, h3.1, h3.2.1⟩
    congr 1
    apply Array.ext
    · simpa using hsz
    · intro j h4 h5
      match j, h4 with
      | 0, h4 => simp [Array.getD_eq_getD_getElem?, h4]
      | 1, h4 => simp [Array.getD_eq_getD_getElem?, h4]
      | j + 2, h4 => omega
  unfold arr2 at h1
  split at h1
  · rename_i q a0 q' a1 p c0 p' c1
    obtain ⟨hc, h3⟩ := bif_some h1
    clear h1
    simp only [Bool.and_eq_true, decide_eq_true_eq] at hc
    obtain ⟨rfl, rfl⟩ := hc
    cases h3
    obtain ⟨u0, u1, e1, k0, k1⟩ := two hx
    obtain ⟨w0, w1, e2, k2, k3⟩ := two hy
    simp only [DR] at k0 k1 k2 k3
    cases k0
    cases k1
    cases k2
    cases k3
    have heq : (Op.equal t (.agg #[.int q a0, .int q' a1]) (.agg #[.int q c0, .int q' c1])).run P X.w = .ok (a0 == c0 && a1 == c1) X.w := run_eqArr2 ht he hs 9998 a0 a1 c0 c1 X.w
    have hgd : P.eqGuardType P.depth t = false := by
      have : P.depth = (2 * (P.types.size + Made.depth) + 1) + 1 := rfl
      rw [this]
      simp [Program.eqGuardType, ht, he]
    cases op <;> simp only [eqOp, Option.some.injEq, reduceCtorEq] at h2
    · subst h2
      refine Sim.value (X' := X) (u := .bool (a0 == c0 && a1 == c1)) ?_ (Ext.refl X) hX ⟨by simp only [DR]; exact .bool _, rfl⟩
      simp [execOp, ho, e1, e2, eqGuard, hgd, binOp, heq]
    · subst h2
      refine Sim.value (X' := X) (u := .bool (!(a0 == c0 && a1 == c1))) ?_ (Ext.refl X) hX ⟨by simp only [DR]; exact .bool _, rfl⟩
      simp [execOp, ho, e1, e2, eqGuard, hgd, binOp, heq]
  · cases h1
theorem sim_cvB (hX : StoR X) {s t e : TypeId} {x : Operand} (ho : o.op = .convert s t x) {dx d : D} (hx : DR X dx (a.eval x))
    (hs : P.underlying s = some .string) (ht : P.underlying t = some (.slice e)) (he : P.underlying e = some (.int .u8)) (h : cvB dx = some d) : Sim P o X a (fun X' u => DR X' d u ∧ X'.τ = X.τ) := by
  unfold cvB at h
  split at h
  · rename_i str
    simp only [Option.some.injEq] at h
    subst h
    have hu : a.eval x = .string str := by
      generalize a.eval x = ux at hx
      simp only [DR] at hx
      cases hx
      rfl
    have hrun := Lib.run_convert_string_bytes (P := P) X.w s t e str hs ht he
    have hfr : Fresh X.w (Lib.bytesWorld X.w e str) (.cells (Lib.bytesCells X.w e str) e ((Lib.bytesCells X.w e str).size, (Lib.bytesCells X.w e str).size + 1)) := by
      refine ⟨?_, rfl, rfl, rfl, Nat.le_succ _⟩
      apply Array.ext_getElem?
      intro i
      rw [Array.getElem?_push]
      by_cases hi : i = X.w.heap.size
      · subst hi
        rw [if_pos rfl]
        exact Lib.bytesWorld_at_new X.w e str
      · rw [if_neg hi]
        by_cases hl : i < X.w.heap.size
        · exact Lib.bytesWorld_at_old X.w e str i hl
        · rw [Array.getElem?_eq_none (by rw [Lib.bytesWorld_size]; omega), Array.getElem?_eq_none (by omega)]
    have hsz : str.size ≤ (Lib.bytesCells X.w e str).size := by
      unfold Lib.bytesCells
      rw [Array.size_append, Array.size_map]
      exact Nat.le_add_right _ _
    have he' : Ext X (X.lay (Lib.bytesWorld X.w e str) true str.size) := lay_ext hfr _
    refine Sim.value (X' := X.lay (Lib.bytesWorld X.w e str) true str.size) (u := .slice (some ⟨X.w.heap.size, 0, none⟩) str.size (grownCap X.w str.size 0 e)) ?_ he' (lay_sto hX hfr hsz) ⟨?_, rfl⟩
    · simp [execOp, ho, hu, hrun]
      rfl
    · have hlen : (str.data.toList.map fun b => [V.int .u8 b.toNat]).length = str.size := (List.length_map (f := fun b : UInt8 => [V.int .u8 b.toNat]) (as := str.data.toList)).trans rfl
      simp only [DR]
      refine ⟨grownCap X.w str.size 0 e, some (at_ X.w.heap.size 0), X.w.heap.size, 0, fun i _ => .int .u8 (str.data.toList.getD i 0).toNat, by rw [hlen], fun _ => rfl, ?_, ?_, ?_, ?_⟩
      · intro cs hcs
        obtain ⟨b, _, rfl⟩ := List.mem_map.1 hcs
        rfl
      · rw [hlen]
        exact grownCap_room _ _ _ _
      · intro i hi j hj
        rw [hlen] at hi
        obtain rfl : j = 0 := by omega
        refine ⟨.inr ⟨rfl, rfl, by omega⟩, ?_⟩
        rw [show 0 + i * 1 + 0 = i from by omega]
        exact Lib.bytesWorld_cell X.w e str i hi
      · intro i cs hcs j v hv
        rw [List.getElem?_map, Option.map_eq_some_iff] at hcs
        obtain ⟨b, hb, rfl⟩ := hcs
        cases j with
        | zero =>
          simp only [List.getElem?_cons_zero, Option.some.injEq] at hv
          subst hv
          have : str.data.toList.getD i 0 = b := by rw [List.getD_eq_getElem?_getD, hb]; rfl
          show VR _ _ _ (Value.int .u8 ↑(str.data.toList.getD i 0).toNat)
          rw [this]
          exact .int _ _
        | succ j => simp at hv
  · cases h
end Go.Ab
