/- Regions whose order is drawn. -/
import Derived.Test.YtbhlffhfmgnleaaGreatDoorWA5
import Derived.RangeFuncRecord
set_option linter.all false
namespace Go.Ab
open Go
variable [Globs]

/-! ### What stands before what -/
theorem edge_bits (acc : Array Nat) (i : Nat) : ∀ (l : List Edge) (s : Nat), (l.foldl (fun s e => if Region.binds .any e then s ||| 2 ^ e.on ||| acc.getD e.on 0 else s) s).testBit i = true →
    s.testBit i = true ∨ ∃ e ∈ l, Region.binds .any e = true ∧ (e.on = i ∨ (acc.getD e.on 0).testBit i = true)
  | [], s, h => .inl h
  | e :: l, s, h => by
    rw [List.foldl_cons] at h
    rcases edge_bits acc i l _ h with h1 | ⟨e', h1, h2⟩
    · by_cases hb : Region.binds .any e = true
      · rw [if_pos hb, Nat.testBit_or, Nat.testBit_or, Nat.testBit_two_pow] at h1
        simp only [Bool.or_eq_true, decide_eq_true_eq] at h1
        rcases h1 with (h1 | h1) | h1
        · exact .inl h1
        · exact .inr ⟨e, by simp, hb, .inl h1⟩
        · exact .inr ⟨e, by simp, hb, .inr h1⟩
      · rw [if_neg hb] at h1
        exact .inl h1
    · exact .inr ⟨e', by simp [h1], h2⟩

def beforeStep (acc : Array Nat) (o : Oper) : Array Nat := acc.push (o.after.foldl (fun s e => if Region.binds .any e then s ||| 2 ^ e.on ||| acc.getD e.on 0 else s) 0)

theorem before_list (l : List Oper) : (l.foldl beforeStep #[]).size = l.length ∧ ∀ (l' : List Oper) (k : Nat), k < l.length → ((l ++ l').foldl beforeStep #[]).getD k 0 = (l.foldl beforeStep #[]).getD k 0 := by
  have size : ∀ (l : List Oper) (acc : Array Nat), (l.foldl beforeStep acc).size = acc.size + l.length := by
    intro l
    induction l with
    | nil => intro acc; simp
    | cons o l ih => intro acc; rw [List.foldl_cons, ih]; simp [beforeStep]; omega
  have keep : ∀ (l : List Oper) (acc : Array Nat) (k : Nat), k < acc.size → (l.foldl beforeStep acc).getD k 0 = acc.getD k 0 := by
    intro l
    induction l with
    | nil => intro acc k _; rfl
    | cons o l ih =>
      intro acc k hk
      rw [List.foldl_cons, ih _ k (by simp [beforeStep]; omega)]
      simp only [beforeStep, Array.getD_eq_getD_getElem?, Array.getElem?_push]
      rw [if_neg (by omega)]
  refine ⟨by rw [size]; simp, fun l' k hk => ?_⟩
  rw [List.foldl_append, keep l' _ k (by rw [size]; simpa using hk)]

theorem before_spec {ops : Array Oper} {j i : Nat} (h : ((Region.before ops).getD j 0).testBit i = true) :
    ∃ o, ops[j]? = some o ∧ ∃ e ∈ o.after, Region.binds .any e = true ∧ (e.on = i ∨ (e.on < j ∧ ((Region.before ops).getD e.on 0).testBit i = true)) := by
  have hb : Region.before ops = ops.toList.foldl beforeStep #[] := by
    unfold Region.before
    rw [← Array.foldl_toList]
    rfl
  rw [hb] at h ⊢
  obtain ⟨hsz, _⟩ := before_list ops.toList
  have hj : j < ops.toList.length := by
    rcases Nat.lt_or_ge j ops.toList.length with h' | h'
    · exact h'
    · rw [Array.getD_eq_getD_getElem?, Array.getElem?_eq_none (by rw [hsz]; exact h')] at h
      simp at h
  have hsplit : ops.toList = ops.toList.take j ++ (ops.toList[j] :: ops.toList.drop (j + 1)) := by
    rw [← List.drop_eq_getElem_cons hj, List.take_append_drop]
  refine ⟨ops.toList[j], by rw [← Array.getElem?_toList]; exact List.getElem?_eq_getElem hj, ?_⟩
  have htl : (ops.toList.take j).length = j := by rw [List.length_take]; omega
  -- the entry at j
  have hval : (ops.toList.foldl beforeStep #[]).getD j 0 = (ops.toList[j].after.foldl (fun s e => if Region.binds .any e then s ||| 2 ^ e.on ||| ((ops.toList.take j).foldl beforeStep #[]).getD e.on 0 else s) 0) := by
    have h2 := (before_list (ops.toList.take j ++ [ops.toList[j]])).2 (ops.toList.drop (j + 1)) j (by simp [htl])
    rw [List.append_assoc, List.singleton_append, ← hsplit] at h2
    rw [h2, List.foldl_append]
    simp only [List.foldl_cons, List.foldl_nil, beforeStep]
    rw [Array.getD_eq_getD_getElem?, Array.getElem?_push, if_pos (by rw [(before_list _).1, htl])]
    rfl
  rw [hval, ← Array.foldl_toList] at h
  rcases edge_bits _ i _ _ h with h | ⟨e, h1, h2, h3⟩
  · simp at h
  · refine ⟨e, by simpa using h1, h2, h3.imp id fun h => ?_⟩
    have hlt : e.on < j := by
      rcases Nat.lt_or_ge e.on j with h' | h'
      · exact h'
      · rw [Array.getD_eq_getD_getElem?, Array.getElem?_eq_none (by rw [(before_list _).1, htl]; exact h')] at h
        simp at h
    refine ⟨hlt, ?_⟩
    have := (before_list (ops.toList.take j)).2 (ops.toList[j] :: ops.toList.drop (j + 1)) e.on (by rw [htl]; exact hlt)
    rw [← hsplit] at this
    rw [this]
    exact h

/-- A set of operations that holds with each one what it stands behind. -/
def Closed (ops : Array Oper) (T : Nat → Prop) : Prop := ∀ j o, ops[j]? = some o → T j → ∀ e ∈ o.after, Region.binds .any e = true → T e.on

theorem before_in {ops : Array Oper} {T : Nat → Prop} (hT : Closed ops T) {i : Nat} : ∀ (m j : Nat), j ≤ m → (∀ o, ops[j]? = some o → ∀ e ∈ o.after, Region.binds .any e = true → T e.on) →
    ((Region.before ops).getD j 0).testBit i = true → T i
  | m, j, hm, hj, h => by
    obtain ⟨o, h1, e, h2, h3, h4⟩ := before_spec h
    have he := hj o h1 e h2 h3
    rcases h4 with rfl | ⟨h4, h5⟩
    · exact he
    · cases m with
      | zero => omega
      | succ m => exact before_in hT m e.on (by omega) (fun o' ho' => hT e.on o' ho' he) h5

/-! ### What the checks say -/
theorem mem_zip {α : Type} {l : List α} {x : α} {j : Nat} : (x, j) ∈ l.zipIdx ↔ l[j]? = some x := by
  rw [List.mem_zipIdx_iff_getElem?]

theorem drawOk_edges {ops : Array Oper} (h : drawOk ops = true) {j : Nat} {o : Oper} (hj : ops[j]? = some o) : ∀ e ∈ o.after, Region.binds .any e = true → e.on < j := by
  simp only [drawOk, List.all_eq_true, Bool.and_eq_true] at h
  have := (h (o, j) (mem_zip.2 (by simpa using hj))).1
  intro e he hb
  have := this e (by simpa using he)
  simpa [hb] using this

theorem drawOk_order {ops : Array Oper} (h : drawOk ops = true) {i j : Nat} {oi oj : Oper} (hi : ops[i]? = some oi) (hj : ops[j]? = some oj) (hlt : i < j)
    (hc : (∃ d, oi.dst = some d ∧ d ∈ names ops oj) ∨ (∃ d, oj.dst = some d ∧ d ∈ names ops oi)) : ((Region.before ops).getD j 0).testBit i = true := by
  simp only [drawOk, List.all_eq_true, Bool.and_eq_true] at h
  have := (h (oj, j) (mem_zip.2 (by simpa using hj))).2 (oi, i) (mem_zip.2 (by simpa using hi))
  have hw : (writesIn oi (names ops oj) || writesIn oj (names ops oi)) = true := by
    rcases hc with ⟨d, h1, h2⟩ | ⟨d, h1, h2⟩
    · simp [writesIn, h1, h2]
    · have : writesIn oj (names ops oi) = true := by simp [writesIn, h1, h2]
      rw [this, Bool.or_true]
  rw [hw] at this
  simpa [hlt] using this

theorem quiet_ok {b : Array Nat} : ∀ {l : List (Foot × Nat)}, quiet b l = true → l.Pairwise (fun p q => p.2 < q.2) → ∀ p ∈ l, ∀ q ∈ l, p.2 < q.2 → footClash p.1 q.1 = true → (b.getD q.2 0).testBit p.2 = true
  | [], _, _, p, hp, _, _, _, _ => by simp at hp
  | x :: rest, h, hs, p, hp, q, hq, hlt, hc => by
    simp only [quiet, Bool.and_eq_true, List.all_eq_true] at h
    rw [List.pairwise_cons] at hs
    rcases List.mem_cons.1 hp with e1 | hp1
    · rcases List.mem_cons.1 hq with e2 | hq1
      · rw [e1, e2] at hlt; omega
      · have := h.1 q hq1
        rw [← e1, hc] at this
        simpa using this
    · rcases List.mem_cons.1 hq with e2 | hq1
      · have := hs.1 p hp1
        rw [← e2] at this
        omega
      · exact quiet_ok h.2 hs.2 p hp1 q hq1 hlt hc

theorem zip_sorted {α : Type} : ∀ (l : List α) (k : Nat), (l.zipIdx k).Pairwise (fun p q => p.2 < q.2)
  | [], k => by simp
  | x :: l, k => by
    rw [List.zipIdx_cons, List.pairwise_cons]
    refine ⟨fun q hq => ?_, zip_sorted l (k + 1)⟩
    have := List.le_snd_of_mem_zipIdx hq
    show k < q.2
    omega

theorem loud_ok {b : Array Nat} {n : Nat} {Fs : Nat → Foot} (h : quiet b (loud ((List.range n).map Fs)) = true) {i j : Nat} (hi : i < j) (hj : j < n) (hc : footClash (Fs i) (Fs j) = true) : (b.getD j 0).testBit i = true := by
  have mem : ∀ k, k < n → Fs k ≠ [] → (Fs k, k) ∈ loud ((List.range n).map Fs) := fun k hk hne => by
    refine List.mem_filter.2 ⟨mem_zip.2 (by simp [hk]), ?_⟩
    cases hF : Fs k with
    | nil => exact absurd hF hne
    | cons x xs => rfl
  have h1 : Fs i ≠ [] := fun e => by rw [e] at hc; simp [footClash] at hc
  have h2 : Fs j ≠ [] := fun e => by rw [e] at hc; simp [footClash] at hc
  exact quiet_ok h ((zip_sorted _ 0).filter _) _ (mem i (by omega) h1) _ (mem j hj h2) hi hc

theorem clash_of {x y : Foot} {q : Nat} {b c : Bool} (h1 : (q, b) ∈ x) (h2 : (q, c) ∈ y) (h : b = true ∨ c = true) : footClash x y = true := by
  simp only [footClash, List.any_eq_true, Bool.and_eq_true, beq_iff_eq, Bool.or_eq_true]
  exact ⟨_, h1, _, h2, rfl, h⟩


/-! ### Following any order -/
theorem countP_lt {α : Type} {p p' : α → Bool} : ∀ {l : List α} {x : α}, x ∈ l → (∀ y ∈ l, p' y = true → p y = true) → p x = true → p' x = false → l.countP p' < l.countP p
  | [], x, h, _, _, _ => by simp at h
  | y :: l, x, h, hp, h1, h2 => by
    rw [List.countP_cons, List.countP_cons]
    rcases List.mem_cons.1 h with e | h
    · subst e
      have : l.countP p' ≤ l.countP p := List.countP_mono_left fun y hy => hp y (by simp [hy])
      simp [h1, h2]
      omega
    · have := countP_lt h (fun y hy => hp y (by simp [hy])) h1 h2
      have hy := hp y (by simp)
      by_cases e : p' y = true
      · simp [e, hy e]; exact this
      · simp [e]; split <;> omega

section any
variable {P : Program} {n : Nat} {ops : Array Oper} {Es : Nat → Env} {Ss : Nat → Sto} {Ds : Nat → D} {Fs : Nat → Foot}
  (hst : ∀ i o, ops[i]? = some o → StepR P ops o (Es i) (Ss i) (Ds i) (Es (i + 1)) (Ss (i + 1)) (Fs i))
include hst

/-- Who wrote a temporary last, in the text's order. -/
theorem get_at (t : Tmp) : ∀ j, j ≤ ops.size → (∃ i o, i < j ∧ ops[i]? = some o ∧ o.dst = some t ∧ (∀ k ok, k < j → ops[k]? = some ok → ok.dst = some t → k ≤ i) ∧ (Es j).get t = Ds i) ∨
    ((∀ k ok, k < j → ops[k]? = some ok → ok.dst ≠ some t) ∧ (Es j).get t = (Es 0).get t)
  | 0, _ => .inr ⟨fun k _ h => by omega, rfl⟩
  | j + 1, hj => by
    have hi : ops[j]? = some (ops[j]'(by omega)) := Array.getElem?_eq_getElem (by omega)
    have hg := (hst j _ hi).get t
    by_cases e : (ops[j]'(by omega)).dst = some t
    · rw [if_pos e] at hg
      exact .inl ⟨j, _, Nat.lt_succ_self j, hi, e, fun k _ hk _ _ => by omega, hg⟩
    · rw [if_neg e] at hg
      have only : ∀ k ok, k < j + 1 → ops[k]? = some ok → ok.dst = some t → k < j := fun k ok hk h1 h2 => by
        rcases Nat.lt_or_ge k j with h | h
        · exact h
        · have : k = j := by omega
          subst this
          rw [hi] at h1
          cases h1
          exact absurd h2 e
      rcases get_at t j (by omega) with ⟨i, o, h1, h2, h3, h4, h5⟩ | ⟨h1, h2⟩
      · exact .inl ⟨i, o, by omega, h2, h3, fun k ok hk e1 e2 => h4 k ok (only k ok hk e1 e2) e1 e2, hg.trans h5⟩
      · exact .inr ⟨fun k ok hk e1 e2 => h1 k ok (only k ok hk e1 e2) e1 e2, hg.trans h2⟩

/-- Who touched a row last, in the text's order. -/
theorem sto_at (q : Nat) : ∀ j, j ≤ ops.size → (∃ i, i < j ∧ (q, true) ∈ Fs i ∧ (∀ k, k < j → (q, true) ∈ Fs k → k ≤ i) ∧ (Ss j)[q]? = (Ss (i + 1))[q]?) ∨
    ((∀ k, k < j → (q, true) ∉ Fs k) ∧ (Ss j)[q]? = (Ss 0)[q]?)
  | 0, _ => .inr ⟨fun k h => by omega, rfl⟩
  | j + 1, hj => by
    have hi : ops[j]? = some (ops[j]'(by omega)) := Array.getElem?_eq_getElem (by omega)
    by_cases e : (q, true) ∈ Fs j
    · exact .inl ⟨j, Nat.lt_succ_self j, e, fun k hk _ => by omega, rfl⟩
    · have hg := foot_keep hst hi e
      have only : ∀ k, k < j + 1 → (q, true) ∈ Fs k → k < j := fun k hk h2 => by
        rcases Nat.lt_or_ge k j with h | h
        · exact h
        · have : k = j := by omega
          subst this
          exact absurd h2 e
      rcases sto_at q j (by omega) with ⟨i, h1, h3, h4, h5⟩ | ⟨h1, h2⟩
      · exact .inl ⟨i, by omega, h3, fun k hk e2 => h4 k (only k hk e2) e2, hg.trans h5⟩
      · exact .inr ⟨fun k hk e2 => h1 k (only k hk e2) e2, hg.trans h2⟩

/-- Where the operations T have been done. -/
structure Inv (P : Program) (ops : Array Oper) (Es : Nat → Env) (Ss : Nat → Sto) (Ds : Nat → D) (Fs : Nat → Foot) (T : Nat → Prop) (X : Cx) (a : Act) : Prop where
  sto : StoR X
  closed : Closed ops T
  env1 : ∀ (t : Tmp) (i : Nat) (o : Oper), ops[i]? = some o → T i → o.dst = some t → (∀ k ok, ops[k]? = some ok → T k → ok.dst = some t → k ≤ i) → DR X (Ds i) (a.eval (.tmp t))
  env0 : ∀ (t : Tmp), (∀ k ok, ops[k]? = some ok → T k → ok.dst ≠ some t) → DR X ((Es 0).get t) (a.eval (.tmp t))
  tau1 : ∀ (q i : Nat), i < ops.size → T i → (q, true) ∈ Fs i → (∀ k, k < ops.size → T k → (q, true) ∈ Fs k → k ≤ i) → X.τ q = (Ss (i + 1))[q]?
  tau0 : ∀ (q : Nat), (∀ k, k < ops.size → T k → (q, true) ∉ Fs k) → X.τ q = (Ss 0)[q]?

variable (hd : drawOk ops = true) (hq : quiet (Region.before ops) (loud ((List.range ops.size).map Fs)) = true) (hsz : ∀ (i : Nat) (o : Oper), ops[i]? = some o → ∀ d, o.dst = some d → d < n)
include hd hq hsz

/-- One more operation. -/
theorem inv_step {T : Nat → Prop} {X : Cx} {a : Act} (h : Inv P ops Es Ss Ds Fs T X a) (hn : n ≤ a.tmps.size) {j : Nat} {o : Oper} (hj : ops[j]? = some o) (hnT : ¬ T j)
    (hr : ∀ e ∈ o.after, Region.binds .any e = true → T e.on) {K : Act → World → Prop} {Q : Exit → Act → World → Prop} {ro : Option Nat}
    (hK : ∀ X' a', Ext X X' → Inv P ops Es Ss Ds Fs (fun k => T k ∨ k = j) X' a' → a'.tmps.size = a.tmps.size → a'.defers = a.defers → K a' X'.w) : wpOpIn (Fx ro) 0 P ops Q j K a X.w := by
  have hjn : j < ops.size := (Array.getElem?_eq_some_iff.1 hj).1
  have hs := hst j o hj
  have inT : ∀ i, ((Region.before ops).getD j 0).testBit i = true → T i := fun i hb => before_in h.closed j j (Nat.le_refl _) (fun o' ho' => by rw [hj] at ho'; cases ho'; exact hr) hb
  have notT : ∀ i, ((Region.before ops).getD i 0).testBit j = true → ¬ T i := fun i hb hTi => hnT (before_in h.closed i i (Nat.le_refl _) (fun o' ho' => h.closed i o' ho' hTi) hb)
  -- the temporaries that j names
  have wr : ∀ t, t ∈ names ops o → (∀ i oi, i < j → ops[i]? = some oi → oi.dst = some t → T i) ∧ ∀ k ok, ops[k]? = some ok → T k → ok.dst = some t → k < j := fun t ht => by
    refine ⟨fun i oi hi ho hdst => inT i (drawOk_order hd ho hj hi (.inl ⟨t, hdst, ht⟩)), fun k ok hk hTk hdst => ?_⟩
    rcases Nat.lt_trichotomy k j with h1 | h1 | h1
    · exact h1
    · subst h1; exact absurd hTk hnT
    · exact absurd hTk (notT k (drawOk_order hd hj hk h1 (.inr ⟨t, hdst, ht⟩)))
  have val : ∀ t, t ∈ names ops o → DR X ((Es j).get t) (a.eval (.tmp t)) := fun t ht => by
    obtain ⟨w1, w2⟩ := wr t ht
    rcases get_at hst t j (by omega) with ⟨i, oi, h1, h2, h3, h4, h5⟩ | ⟨h1, h2⟩
    · rw [h5]
      exact h.env1 t i oi h2 (w1 i oi h1 h2 h3) h3 fun k ok e1 e2 e3 => h4 k ok (w2 k ok e1 e2 e3) e1 e3
    · rw [h2]
      exact h.env0 t fun k ok e1 e2 e3 => h1 k ok (w2 k ok e1 e2 e3) e1 e3
  -- the rows of its footprint
  have touch : ∀ q b, (q, b) ∈ Fs j → (∀ i, i < j → (q, true) ∈ Fs i → T i) ∧ ∀ k, k < ops.size → T k → (q, true) ∈ Fs k → k < j := fun q b hqj => by
    refine ⟨fun i hi hqi => inT i (loud_ok hq hi hjn (clash_of hqi hqj (.inl rfl))), fun k hk hTk hqk => ?_⟩
    rcases Nat.lt_trichotomy k j with h1 | h1 | h1
    · exact h1
    · subst h1; exact absurd hTk hnT
    · exact absurd hTk (notT k (loud_ok hq h1 hk (clash_of hqj hqk (.inr rfl))))
  have rows : ∀ p ∈ Fs j, X.τ p.1 = (Ss j)[p.1]? := fun p hp => by
    obtain ⟨q, b⟩ := p
    obtain ⟨w1, w2⟩ := touch q b hp
    rcases sto_at hst q j (by omega) with ⟨i, h1, h3, h4, h5⟩ | ⟨h1, h2⟩
    · rw [h5]
      exact h.tau1 q i (by omega) (w1 i h1 h3) h3 fun k e1 e2 e3 => h4 k (w2 k e1 e2 e3) e3
    · rw [h2]
      exact h.tau0 q fun k e1 e2 e3 => h1 k (w2 k e1 e2 e3) e3
  refine step_ok hj hs h.sto (fun x hx => OpdR.of_get h.sto fun t ht => val t ?_) (fun j' b g hgu hgt => val g ?_) rows fun X' u he hs' hdr hτ' => hK X' _ he ⟨hs', ?_, ?_, ?_, ?_, ?_⟩ (put_size _ _ _) (put_defers _ _ _)
  · subst ht
    simp only [names, List.mem_append, List.mem_filterMap]
    exact .inl (.inr ⟨_, by simpa using hx, rfl⟩)
  · have : (ops[j']?).bind (·.dst) = some g := hgt
    simp [names, hgu, this]
  · intro k ok hk hTk e he' hb
    rcases hTk with hTk | rfl
    · exact .inl (h.closed k ok hk hTk e he' hb)
    · rw [hj] at hk
      cases hk
      exact .inl (hr e he' hb)
  · intro t i oi hi hTi hdst hmax
    by_cases e : o.dst = some t
    · have hin : t ∈ names ops o := by simp [names, e]
      obtain ⟨_, w2⟩ := wr t hin
      have hji := hmax j o hj (.inr rfl) e
      have : i = j := by
        rcases hTi with hTi | hTi
        · have := w2 i oi hi hTi hdst; omega
        · exact hTi
      subst this
      rw [e, eval_put_self (Nat.lt_of_lt_of_le (hsz i o hj t e) hn)]
      exact hdr
    · rw [eval_put_ne e]
      have hTi' : T i := hTi.resolve_right fun e' => by subst e'; rw [hj] at hi; cases hi; exact e hdst
      exact (h.env1 t i oi hi hTi' hdst fun k ok e1 e2 e3 => hmax k ok e1 (.inl e2) e3).ext h.sto he
  · intro t hno
    rw [eval_put_ne (hno j o hj (.inr rfl))]
    exact (h.env0 t fun k ok e1 e2 => hno k ok e1 (.inl e2)).ext h.sto he
  · intro q i hi hTi hqi hmax
    rw [hτ']
    show (if (q, true) ∈ Fs j then _ else _) = _
    by_cases e : (q, true) ∈ Fs j
    · rw [if_pos e]
      obtain ⟨_, w2⟩ := touch q true e
      have hji := hmax j hjn (.inr rfl) e
      have : i = j := by
        rcases hTi with hTi | hTi
        · have := w2 i hi hTi hqi; omega
        · exact hTi
      subst this
      rfl
    · rw [if_neg e]
      have hTi' : T i := hTi.resolve_right fun e' => by subst e'; exact e hqi
      exact h.tau1 q i hi hTi' hqi fun k e1 e2 e3 => hmax k e1 (.inl e2) e3
  · intro q hno
    rw [hτ']
    show (if (q, true) ∈ Fs j then _ else _) = _
    rw [if_neg (hno j hjn (.inr rfl))]
    exact h.tau0 q fun k e1 e2 => hno k e1 (.inl e2)

theorem region_any {Q : Exit → Act → World → Prop} {ro : Option Nat} : ∀ (fuel : Nat) (listed : Array Bool) (X : Cx) (a : Act), listed.size = ops.size → (List.range ops.size).countP (fun j => !(listed.getD j true)) ≤ fuel →
    Inv P ops Es Ss Ds Fs (fun j => listed.getD j false = true) X a → n ≤ a.tmps.size → RegionPost X a (Es ops.size) (Ss ops.size) Q → wpAnyIn (Fx ro) 0 P .any ops Q fuel listed a X.w := by
  have full : ∀ (listed : Array Bool) (X : Cx) (a : Act), listed.size = ops.size → Inv P ops Es Ss Ds Fs (fun j => listed.getD j false = true) X a → Region.ready .any ops listed = [] → RegionPost X a (Es ops.size) (Ss ops.size) Q → Q .normal a X.w := by
    intro listed X a hls h hr hQ
    have allT : ∀ m j, j ≤ m → j < ops.size → listed.getD j false = true := by
      intro m
      induction m using Nat.strongRecOn with
      | _ m ih =>
        intro j hm hj
        cases hl : listed.getD j false with
        | true => rfl
        | false =>
          exfalso
          have hjl : j < listed.size := by omega
          have hl' : listed.getD j true = false := by
            simp only [Array.getD_eq_getD_getElem?, Array.getElem?_eq_getElem hjl, Option.getD_some] at hl ⊢
            exact hl
          have hi : ops[j]? = some (ops[j]'hj) := Array.getElem?_eq_getElem hj
          have : j ∈ Region.ready .any ops listed := mem_ready.2 ⟨hl', _, hi, fun e he hb => by
            have hlt := drawOk_edges hd hi e he hb
            exact ih e.on (by omega) e.on (Nat.le_refl _) (by omega)⟩
          rw [hr] at this
          cases this
    refine hQ X a (Ext.refl X) h.sto (fun q => ?_) (fun t => ?_) rfl rfl
    · rcases sto_at hst q ops.size (Nat.le_refl _) with ⟨i, h1, h3, h4, h5⟩ | ⟨h1, h2⟩
      · rw [h5]
        exact h.tau1 q i h1 (allT i i (Nat.le_refl _) h1) h3 fun k e1 _ e3 => h4 k e1 e3
      · rw [h2]
        exact h.tau0 q fun k e1 _ e3 => h1 k e1 e3
    · rcases get_at hst t ops.size (Nat.le_refl _) with ⟨i, oi, h1, h2, h3, h4, h5⟩ | ⟨h1, h2⟩
      · rw [h5]
        exact h.env1 t i oi h2 (allT i i (Nat.le_refl _) h1) h3 fun k ok e1 _ e3 => h4 k ok (Array.getElem?_eq_some_iff.1 e1).1 e1 e3
      · rw [h2]
        exact h.env0 t fun k ok e1 _ e3 => h1 k ok (Array.getElem?_eq_some_iff.1 e1).1 e1 e3
  intro fuel
  induction fuel with
  | zero =>
    intro listed X a hls hc h hn hQ
    have hr : Region.ready .any ops listed = [] := by
      cases hrr : Region.ready .any ops listed with
      | nil => rfl
      | cons k ks =>
        exfalso
        have hk : k ∈ Region.ready .any ops listed := by rw [hrr]; simp
        obtain ⟨h1, o, h2, _⟩ := mem_ready.1 hk
        have hpos : 0 < (List.range ops.size).countP (fun j => !(listed.getD j true)) := List.countP_pos_iff.2 ⟨k, by simp [(Array.getElem?_eq_some_iff.1 h2).1], by simpa using h1⟩
        omega
    exact ⟨hr, full listed X a hls h hr hQ⟩
  | succ fuel ih =>
    intro listed X a hls hc h hn hQ
    refine ⟨fun hr => full listed X a hls h hr hQ, fun j hj => ?_⟩
    obtain ⟨h1, o, h2, h3⟩ := mem_ready.1 hj
    have hjn : j < ops.size := (Array.getElem?_eq_some_iff.1 h2).1
    have hjl : j < listed.size := by omega
    have hnT : ¬ listed.getD j false = true := by
      simp only [Array.getD_eq_getD_getElem?, Array.getElem?_eq_getElem hjl, Option.getD_some] at h1 ⊢
      simp [h1]
    refine inv_step hst hd hq hsz h hn h2 hnT h3 fun X' a' he hi e1 e2 => ?_
    have hT : (fun k => listed.getD k false = true ∨ k = j) = fun k => (listed.setIfInBounds j true).getD k false = true := by
      funext k
      apply propext
      by_cases e : k = j
      · subst e
        simp [hjl]
      · rw [getD_set_ne false (Ne.symm e)]
        simp [e]
    rw [hT] at hi
    refine ih _ X' a' (by simpa using hls) ?_ hi (by rw [e1]; exact hn) fun X'' a'' f1 f2 f3 f4 f5 f6 => hQ X'' a'' (he.trans f1) f2 f3 f4 (by rw [f5, e1]) (by rw [f6, e2])
    have := countP_lt (l := List.range ops.size) (x := j) (p := fun j => !(listed.getD j true)) (p' := fun k => !((listed.setIfInBounds j true).getD k true)) (by simpa using hjn) (fun y _ hy => by
      by_cases e : y = j
      · subst e; simpa using h1
      · rw [getD_set_ne true (Ne.symm e)] at hy
        exact hy) (by simpa using h1) (by simp [hjl])
    omega
end any

/-- A region. -/
theorem region_ok {R : Type} {M : Mode} {c : CallerK} (hc : CallerKOk M.P c) (hm : M.P.follows .mixedOrders = true) {id : Nat} {ops : Array Oper} {draw : Bool} {E : Env} {σ : Sto}
    {K : Env → Sto → Option R} {r : R} (h : evRegion M c ops draw E σ K = some r) :
    ∃ E' σ', K E' σ' = some r ∧ ∀ (n : Nat), codeOk n (.region id ops draw) = true → ∀ (X : Cx) (a : Act) (Q : Exit → Act → World → Prop) (ro : Option Nat), StoR X → (∀ q, X.τ q = σ[q]?) → EnvR X E a → n ≤ a.tmps.size → RegionPost X a E' σ' Q → (Code.region id ops draw).wpIn (Fx ro) 0 M.P Q a X.w := by
  have hsz0 : ∀ {n : Nat}, codeOk n (.region id ops draw) = true → ∀ (i : Nat) (o : Oper), ops[i]? = some o → ∀ d, o.dst = some d → d < n := fun hok i o hi d hd => by
    simp only [codeOk, Bool.and_eq_true, List.all_eq_true] at hok
    have := hok.1 o (by simpa using Array.mem_of_getElem? hi)
    rw [hd] at this
    simpa using this
  simp only [evRegion, fs_eq] at h
  obtain ⟨Es, Ss, Ds, Fs, e1, e2, e3, e4⟩ := evOps_ok hc _ _ _ _ h
  have hst : ∀ i o, ops[i]? = some o → StepR M.P ops o (Es i) (Ss i) (Ds i) (Es (i + 1)) (Ss (i + 1)) (Fs i) := fun i o hi => e3 i o (by simpa using hi)
  rw [Array.length_toList] at e4
  cases draw with
  | false =>
    refine ⟨_, _, e4, fun n hok X a Q ro hX hτ hE hn hQ => wpIn_region ?_⟩
    have hsz := hsz0 hok
    rw [List.range_eq_range']
    exact region_text hst hsz ops.size 0 (by omega) X a hX (by rw [e2]; exact hτ) (by rw [e1]; exact hE) hn hQ
  | true =>
    simp only [cond_true, List.nil_append] at e4
    obtain ⟨hq, e4⟩ := bif_some e4
    refine ⟨_, _, e4, fun n hok X a Q ro hX hτ hE hn hQ => wpIn_region_any hm ?_⟩
    have hsz := hsz0 hok
    have hd : drawOk ops = true := by
      simp only [codeOk, Bool.and_eq_true] at hok
      simpa using hok.2
    have hs1 := same_sto (w' := { X.w with drawn := X.w.drawn + 1 }) hX rfl rfl rfl rfl (Nat.le_succ _)
    have hx1 := same_ext (X := X) (w' := { X.w with drawn := X.w.drawn + 1 }) rfl rfl rfl rfl (Nat.le_succ _)
    have hno : ∀ k, ¬ (Array.replicate ops.size false).getD k false = true := fun k => by
      rw [Array.getD_eq_getD_getElem?, Array.getElem?_replicate]
      split <;> simp
    refine region_any hst hd hq hsz ops.size _ { X with w := { X.w with drawn := X.w.drawn + 1 } } a (by simp) ?_ ⟨hs1, fun j o _ hT => absurd hT (hno j), fun t i o _ hT => absurd hT (hno i), fun t _ => ?_, fun q i _ hT => absurd hT (hno i), fun q _ => ?_⟩ hn
      fun X' a' f1 f2 f3 f4 f5 f6 => hQ X' a' (hx1.trans f1) f2 f3 f4 f5 f6
    · exact Nat.le_trans List.countP_le_length (by simp)
    · rw [e1]
      exact (hE t).ext hX hx1
    · rw [e2]
      exact hτ q

end Go.Ab

/- Code. -/
namespace Go.Ab
open Go
variable [Globs]

def Ex.exit' : Ex → Exit
  | .normal => .normal
  | .exit id => .exit id
  | .ret => .ret

/-- The mark that a range over a function leaves among an activation's deferred calls. -/
def mkD (m : Nat) : Deferred := { target := .collected m, args := #[] }

/-- An activation's deferred calls are marks, and nothing more. -/
def Mk (m0 : Nat) (X0 X : Cx) (a : Act) : Prop :=
  m0 ≤ X0.w.heap.size ∧ ∃ ms : List Nat, a.defers = ms.map mkD ∧ ms.Nodup ∧ ∀ m ∈ ms, m0 ≤ m ∧ X.w.heap[m]? = some (.deferred (some [])) ∧ ¬ Own X m

theorem Mk.ext {m0 : Nat} {X0 X X' : Cx} {a a' : Act} (h : Mk m0 X0 X a) (he : Ext X X') (hd : a'.defers = a.defers) : Mk m0 X0 X' a' := by
  obtain ⟨h0, ms, h1, h2, h3⟩ := h
  refine ⟨h0, ms, hd.trans h1, h2, fun m hm => ?_⟩
  obtain ⟨h4, h5, h6⟩ := h3 m hm
  have hlt : m < X.w.heap.size := (Array.getElem?_eq_some_iff.1 h5).1
  refine ⟨h4, (he.blk m hlt h6).trans h5, fun ho => ?_⟩
  rcases he.own m ho with h | h
  · exact h6 h
  · omega

theorem Mk.head {m0 : Nat} {X0 X X' : Cx} {a : Act} (h : Mk m0 X0 X a) (hw : X'.w = X.w) (ho : ∀ b, Own X' b → Own X b) : Mk m0 X0 X' a := by
  obtain ⟨h0, ms, h1, h2, h3⟩ := h
  exact ⟨h0, ms, h1, h2, fun m hm => ⟨(h3 m hm).1, by rw [hw]; exact (h3 m hm).2.1, fun h => (h3 m hm).2.2 (ho m h)⟩⟩

theorem Mk.nil {X0 X : Cx} {a : Act} (h : a.defers = []) : Mk X0.w.heap.size X0 X a := ⟨Nat.le_refl _, [], h, List.nodup_nil, by simp⟩
/-- Later, as seen from a later beginning. -/
theorem Mk.from {m0 : Nat} {X0 X1 X : Cx} {a : Act} (h : Mk m0 X0 X a) (hs : X0.w.heap.size ≤ X1.w.heap.size) : Mk m0 X1 X a := ⟨Nat.le_trans h.1 hs, h.2⟩

/-- What the evaluation of code promises. X0: where the call began; k0: its rows; ro: the round in whose frame it runs, if it is one's. -/
def CodeSem (P : Program) (n k0 : Nat) (ro : Option Nat) (b : Code) (E : Env) (σ : Sto) (e : Ex) (E' : Env) (σ' : Sto) : Prop :=
  ∀ ⦃m0 : Nat⦄ (X0 X : Cx) (a : Act) (Q : Exit → Act → World → Prop), (∀ q, k0 ≤ q → X0.τ q = none) → Ext X0 X → StoR X → (∀ q, X.τ q = σ[q]?) → EnvR X E a → n ≤ a.tmps.size → Mk m0 X0 X a →
    (∀ X' a', Ext X0 X' → StoR X' → (∀ q, X'.τ q = σ'[q]?) → EnvR X' E' a' → a'.tmps.size = a.tmps.size → Mk m0 X0 X' a' → Q e.exit' a' X'.w) → b.wpIn (Fx ro) 0 P Q a X.w

theorem get_keep (ts : List Nat) (E : Env) (t : Nat) : (E.keep ts).get t = E.get t ∨ (E.keep ts).get t = .undef := by
  unfold Env.keep
  induction ts with
  | nil => exact .inr rfl
  | cons x ts ih =>
    rw [List.map_cons, get_cons]
    by_cases e : x = t
    · subst e; exact .inl (if_pos rfl)
    · rw [if_neg e]; exact ih

theorem EnvR.keep {X : Cx} {E : Env} {a : Act} (h : EnvR X E a) (ts : List Nat) : EnvR X (E.keep ts) a := fun t => by
  rcases get_keep ts E t with e | e
  · rw [e]; exact h t
  · rw [e]; simp [DR]

/-! ### Loops -/
def LoopWp (ro : Option Nat) (P : Program) (c : Code) (Q : Exit → Act → World → Prop) (a : Act) (w : World) : Prop :=
  ∀ (b : Frame) (k : List Item) (cs : List Frame), b.roundOf = ro → ∃ e a' w', Q e a' w' ∧ ArrivesIn (Machine.fenced P (Fx ro)) P (lone (b.atR a (.code c :: .inLoop c :: k)) cs w) b k cs e a' w'

theorem Fx_room (ro : Option Nat) (n : Nat) : (Fx ro).room n := fun _ h => by simp [Fence.wide] at h

theorem loopWp_step {ro : Option Nat} {P : Program} {c : Code} {Q : Exit → Act → World → Prop} {a : Act} {w : World} (h : c.wpIn (Fx ro) 0 P (Exit.then (LoopWp ro P c Q) Q) a w) : LoopWp ro P c Q a w := by
  intro b k cs hro
  have hb : (Fx ro).fn b.fn := trivial
  have hr : (Fx ro).room (cs.length + 1 + 0) := Fx_room _ _
  obtain ⟨e, a₁, w₁, hq, harr⟩ := h b (.inLoop c :: k) cs hro hb hr
  cases e with
  | normal =>
    obtain ⟨e₂, a₂, w₂, hq₂, harr₂⟩ := hq b k cs hro
    exact ⟨e₂, a₂, w₂, hq₂, .of_steps (StepsIn.trans harr (.one (fenced_calm hb hr rfl) stepR_inLoop)) harr₂⟩
  | exit id => exact ⟨_, a₁, w₁, hq, .pass (x := .inLoop c) rfl (fun _ _ => .inl (by simp)) harr⟩
  | goto l => exact ⟨_, a₁, w₁, hq, .pass (x := .inLoop c) rfl (fun _ _ => .inl (by simp)) harr⟩
  | ret => exact ⟨_, a₁, w₁, hq, .pass (x := .inLoop c) rfl (fun _ _ => .inl (by simp)) harr⟩
  | panic ch => exact ⟨_, a₁, w₁, hq, .pass (x := .inLoop c) rfl (fun _ _ => .inl (by simp)) harr⟩
  | outgrown => exact ⟨_, a₁, w₁, hq, .pass (x := .inLoop c) rfl (fun _ _ => .inl (by simp)) harr⟩

theorem wp_loop_of {ro : Option Nat} {P : Program} {c : Code} {Q : Exit → Act → World → Prop} {a : Act} {w : World} (h : LoopWp ro P c Q a w) : (Code.loop c).wpIn (Fx ro) 0 P Q a w := by
  intro b k cs hro hb hr
  obtain ⟨e, a', w', hq, harr⟩ := h b k cs hro
  exact ⟨e, a', w', hq, .of_steps (.one (fenced_calm hb hr rfl) stepR_loop) harr⟩

/-- How a loop goes. -/
inductive LoopRun (k : Nat) (body : Env → Sto → Option Out) : Env → Sto → Out → Prop
  | stop (E : Env) (σ : Sto) (h : Env × Sto) (o : Out) (h1 : head k E σ = some h) (h2 : body h.1 h.2 = some o) (h3 : o.1 ≠ .normal) : LoopRun k body E σ o
  | next (E : Env) (σ : Sto) (h : Env × Sto) (o o' : Out) (h1 : head k E σ = some h) (h2 : body h.1 h.2 = some o) (h3 : o.1 = .normal) (h4 : LoopRun k body o.2.1 o.2.2 o') : LoopRun k body E σ o'

def LooperOk (lp : Looper) : Prop := ∀ i k body E σ o, lp i k body E σ = some o → LoopRun k body E σ o

theorem loopN_ok (k : Nat) (body : Env → Sto → Option Out) : ∀ (n : Nat) (E : Env) (σ : Sto) (o : Out), loopN k body n E σ = some o → LoopRun k body E σ o
  | 0, E, σ, o, h => by simp [loopN] at h
  | n + 1, E, σ, o, h => by
    simp only [loopN, Option.bind_eq_some_iff] at h
    obtain ⟨hd, h1, o1, h2, h3⟩ := h
    unfold onEx at h3
    split at h3
    · rename_i e1
      exact .next E σ hd o1 o h1 h2 e1 (loopN_ok k body n _ _ o h3)
    · rename_i e he
      simp only [Option.some.injEq] at h3
      subst h3
      exact .stop E σ hd _ h1 h2 fun e' => he (by simpa using e')

/-! ### A loop's head -/
theorem RowStep.renR {ρ : Nat → Nat} {row row' : Row} {l l' : Loc} (h : RowStep row row' l l') : RowStep row (renRow ρ row') l l' := by
  cases h with
  | box => exact .box _ _ _ _
  | map => exact .map _ _ _ _ _
  | pm => exact .pm _ _ _ _
  | mpm => exact .mpm _ _ _ _ _
  | iter => exact .iter _ _ _ _ _ _
  | lp => exact .lp _ _ _ _ _ _ _ _ _
  | same _ _ _ _ _ h => exact .same _ _ _ _ _ h
  | grow _ _ _ _ _ _ _ h => exact .grow _ _ _ _ _ _ _ h
  | frz _ _ _ _ _ h => exact .frz _ _ _ _ _ h
  | growfrz _ _ _ _ _ _ _ h => exact .growfrz _ _ _ _ _ _ _ h
  | ff => exact .ff _ _ _ _
  | dead => exact .dead _ _

theorem sel_ext0 {X0 X : Cx} {k0 : Nat} (h0 : ∀ q, k0 ≤ q → X0.τ q = none) (h : Ext X0 X) {live : List Nat} (hl : ∃ more, live = List.range k0 ++ more) : Ext X0 (X.sel live []) where
  drawn := h.drawn
  os := h.os
  tape := h.tape
  output := h.output
  size := h.size
  blk := h.blk
  own := fun b hb => h.own b (sel_sub_own hb)
  S := h.S
  T := fun b o hb => .inl (h.T b o hb)
  nS := h.nS
  nT := fun b o hb => by
    rcases hb with hb | ⟨⟨r, hr, _⟩, _⟩
    · exact h.nT b o hb
    · cases hr
  refs := fun r row hr => by
    obtain ⟨row', h1, h2⟩ := h.refs r row hr
    have hrk : r < k0 := by
      rcases Nat.lt_or_ge r k0 with h' | h'
      · exact h'
      · rw [h0 r h'] at hr; cases hr
    obtain ⟨more, rfl⟩ := hl
    have hg : (List.range k0 ++ more)[r]? = some r := by
      rw [List.getElem?_append_left (by simpa using hrk)]
      simp [hrk]
    refine ⟨renRow (fun q => idxOf q (List.range k0 ++ more)) row', ?_, ?_⟩
    · show ((List.range k0 ++ more)[r]?).bind _ = _
      rw [hg]
      show (X.τ r).map _ = _
      rw [h1]
      rfl
    · have : (X.sel (List.range k0 ++ more) []).L r = X.L r := by
        show X.L ((List.range k0 ++ more).getD r 0) = X.L r
        rw [List.getD_eq_getElem?_getD, hg]
        rfl
      rw [this]
      exact h2.renR

theorem get_map (ρ : Nat → Nat) (E : Env) (t : Nat) : Env.get (E.map fun p => (p.1, renD ρ p.2)) t = renD ρ (E.get t) := by
  induction E with
  | nil => simp [Env.get, renD]
  | cons p E ih =>
    obtain ⟨u, d⟩ := p
    rw [List.map_cons, get_cons, get_cons, ih]
    split <;> rfl

theorem get_refs (E : Env) (t : Nat) : ∀ q ∈ refsD (E.get t), q ∈ refsDs (E.map (·.2)) := by
  induction E with
  | nil => intro q hq; simp [Env.get, refsD] at hq
  | cons p E ih =>
    obtain ⟨u, d⟩ := p
    intro q hq
    rw [get_cons] at hq
    simp only [List.map_cons, refsDs, List.mem_append]
    split at hq
    · exact .inl hq
    · exact .inr (ih q hq)

theorem sel_tau {X : Cx} {σ : Sto} {live lent : List Nat} {rows : List Row} (hτ : ∀ q ∈ live, X.τ q = σ[q]?) (h : rowsAt σ live = some rows) (j : Nat) :
    (X.sel live lent).τ j = (rows.map (renRow fun q => idxOf q live))[j]? := by
  obtain ⟨hr1, hr2⟩ := rowsAt_ok h
  show (live[j]?).bind _ = _
  rw [List.getElem?_map]
  cases e : live[j]? with
  | none =>
    have : rows[j]? = none := List.getElem?_eq_none (by rw [hr1]; exact List.getElem?_eq_none_iff.1 e)
    rw [this]
    rfl
  | some q =>
    rw [hr2 j q e, ← hτ q (List.mem_of_getElem? e)]
    rfl

theorem head_ok {k0 : Nat} {E E' : Env} {σ σ' : Sto} (h : head k0 E σ = some (E', σ')) {X0 X : Cx} {a : Act} (h0 : ∀ q, k0 ≤ q → X0.τ q = none) (he : Ext X0 X) (hX : StoR X) (hτ : ∀ q, X.τ q = σ[q]?) (hE : EnvR X E a) :
    ∃ X', X'.w = X.w ∧ Ext X0 X' ∧ StoR X' ∧ (∀ q, X'.τ q = σ'[q]?) ∧ EnvR X' E' a ∧ ∀ b, Own X' b → Own X b := by
  simp only [head, Option.bind_eq_some_iff, Option.some.injEq, Prod.mk.injEq] at h
  obtain ⟨live, h1, rows, h2, rfl, rfl⟩ := h
  obtain ⟨hnd, _, htodo, hclo⟩ := reach_ok 1000 _ _ _ h1 List.nodup_nil (by simp)
  have hpre : ∃ more, live = List.range k0 ++ more := by
    rw [List.range_eq_range'] at h1
    exact reach_range k0 0 1000 _ live (by omega) (by simpa using h1)
  have hcl : ∀ q ∈ live, ∃ row, X.τ q = some row ∧ ∀ p ∈ refsRow row, p ∈ live := fun q hq => by
    obtain ⟨row, e1, e2⟩ := hclo q hq
    exact ⟨row, by rw [hτ q]; exact e1, e2⟩
  refine ⟨X.sel live [], rfl, sel_ext0 h0 he hpre, sel_sto hX hnd hcl (by simp), sel_tau (fun q _ => hτ q) h2, fun t => ?_, fun b h => sel_sub_own h⟩
  rw [get_map]
  refine DR.ren (sel_ren X []) (.inl fun _ _ h => .inl h) (hE t) fun q hq => htodo q ?_
  exact List.mem_append_right _ (get_refs E t q hq)

theorem loop_ok {P : Program} {n k0 : Nat} {ro : Option Nat} {b : Code} {ts : List Nat} {body : Env → Sto → Option Out} (hb : ∀ E σ o, body E σ = some o → ∃ E1, o.2.1 = E1.keep ts ∧ CodeSem P n k0 ro b E σ o.1 E1 o.2.2) {E : Env} {σ : Sto} {o : Out}
    (h : LoopRun k0 body E σ o) : ∀ ⦃m0 : Nat⦄ (X0 X : Cx) (a : Act) (Q : Exit → Act → World → Prop), (∀ q, k0 ≤ q → X0.τ q = none) → Ext X0 X → StoR X → (∀ q, X.τ q = σ[q]?) → EnvR X E a → n ≤ a.tmps.size → Mk m0 X0 X a →
    (∀ X' a', Ext X0 X' → StoR X' → (∀ q, X'.τ q = o.2.2[q]?) → EnvR X' o.2.1 a' → a'.tmps.size = a.tmps.size → Mk m0 X0 X' a' → Q o.1.exit' a' X'.w) → LoopWp ro P b Q a X.w := by
  induction h with
  | stop E σ hd o h1 h2 h3 =>
    intro m0 X0 X a Q h0 he hX hτ hE hn hmk hQ
    obtain ⟨X1, e1, e2, e3, e4, e5, e6⟩ := head_ok h1 h0 he hX hτ hE
    obtain ⟨E1, f1, f2⟩ := hb _ _ _ h2
    refine loopWp_step ?_
    rw [← e1]
    refine f2 X0 X1 a _ h0 e2 e3 e4 e5 hn (hmk.head e1 e6) fun X' a' g1 g2 g3 g4 g5 g6 => ?_
    have hq := hQ X' a' g1 g2 g3 (by rw [f1]; exact g4.keep ts) g5 g6
    cases ho : o.1 with
    | normal => exact absurd ho h3
    | exit id => rw [ho] at hq; exact hq
    | ret => rw [ho] at hq; exact hq
  | next E σ hd o o' h1 h2 h3 h4 ih =>
    intro m0 X0 X a Q h0 he hX hτ hE hn hmk hQ
    obtain ⟨X1, e1, e2, e3, e4, e5, e6⟩ := head_ok h1 h0 he hX hτ hE
    obtain ⟨E1, f1, f2⟩ := hb _ _ _ h2
    refine loopWp_step ?_
    rw [← e1]
    refine f2 X0 X1 a _ h0 e2 e3 e4 e5 hn (hmk.head e1 e6) fun X' a' g1 g2 g3 g4 g5 g6 => ?_
    rw [h3]
    exact ih X0 X' a' Q h0 g1 g2 g3 (by rw [f1]; exact g4.keep ts) (by rw [g5]; exact hn) g6 fun X'' a'' k1 k2 k3 k4 k5 k6 => hQ X'' a'' k1 k2 k3 k4 (by rw [k5, g5]) k6

end Go.Ab

/- A range over a function; a round of it. -/
namespace Go.Ab
open Go
variable [Globs]

/-- A new block that no row owns. -/
theorem put_ext (X : Cx) (o : Obj) : Ext X { X with w := X.w.alloc o } where
  drawn := fun _ => Nat.le_refl _
  os := rfl
  tape := rfl
  output := rfl
  size := by show X.w.heap.size ≤ (X.w.alloc o).heap.size; simp
  blk := fun b hb _ => (Fresh.alloc X.w o).old hb
  own := fun b hb => .inl hb
  S := fun _ _ h => h
  T := fun _ _ h => h
  nS := fun _ _ h => .inl h
  nT := fun _ _ h => .inl h
  refs := fun r row h => ⟨row, h, RowStep.refl _ _⟩

theorem put_sto {X : Cx} (hX : StoR X) (o : Obj) : StoR { X with w := X.w.alloc o } where
  rows := fun r row hr => (hX.rows r row hr).keep hX (put_ext X o) rfl fun ho => (Fresh.alloc X.w o).old (Own.lt hX ⟨r, row, hr, ho, rfl⟩)
  inj := hX.inj
  sep := hX.sep
  sub := hX.sub
  glob := GlobR.ext hX (put_ext X o)
  live := fun b p hb => by
    obtain ⟨u, hu⟩ := hX.live b p hb
    exact ⟨u, (cell_of_blk ((Fresh.alloc X.w o).old (lt_of_cell hu)) p).trans hu⟩

theorem touched_put (w : World) (b : Nat) (o : Obj) : Touched w (w.putObj b o) b :=
  ⟨fun k hk => World.putObj_heap_other hk, World.putObj_size, rfl, rfl, rfl, Nat.le_refl _⟩

/-- The record of a range over a function turns. -/
theorem lp_turn {X : Cx} (hX : StoR X) {r : Nat} {bz : Bool} {hk : Nat → Option (List Nat)} {ps : List Nat} {as b : Code} {E : Env} (hr : X.τ r = some (.lp bz hk ps as b E)) {rec rec' : Loop}
    (hh : X.w.heap[(X.L r).block]? = some (.loop rec)) (h1 : rec'.params = rec.params) (h2 : rec'.assign = rec.assign) (h3 : rec'.body = rec.body) (h4 : rec'.tmps = rec.tmps) (bz' : Bool) (h5 : bz' = false → rec'.state = .ready ∧ rec'.pending = none) :
    Ext X (X.turn (X.w.putObj (X.L r).block (.loop rec')) r (.lp bz' hk ps as b E)) ∧ StoR (X.turn (X.w.putObj (X.L r).block (.loop rec')) r (.lp bz' hk ps as b E)) := by
  have ht := touched_put X.w (X.L r).block (.loop rec')
  have he := turn_ext (row' := .lp bz' hk ps as b E) ht hr trivial trivial (.lp _ _ _ _ _ _ _ _ _)
  refine ⟨he, turn_sto (row' := .lp bz' hk ps as b E) hX ht hr trivial trivial (.lp _ _ _ _ _ _ _ _ _) ?_⟩
  obtain ⟨rec0, n, g1, g2, g4, g5, g6, g7, g8, g9, g10, g11⟩ := hX.rows r _ hr
  rw [hh] at g1
  cases g1
  refine ⟨rec', n, World.putObj_heap_same (Array.getElem?_eq_some_iff.1 hh).1, h5, by rw [h1]; exact g4, h2.trans g5, h3.trans g6, g7, g8, by rw [h4]; exact g9, by rw [h4]; exact g10, fun p hp => ?_⟩
  rw [h4]
  exact (g11 p hp).ext hX he

section
variable {M : Mode} {c : Caller} (hc : CallerOk M.P c)
include hc

theorem range_sem {n k0 : Nat} {hk : Nat → Option (List Nat)} {g : Operand} {ps : Array Tmp} {as b : Code} (hok : codeOk n (.rangeFunc g ps as b) = true) {E : Env} {σ σ' : Sto} {gd d : D} {f : FuncId} {first caps : List D} {live : List Nat}
    (hg : operand E g = some gd) (hf : cloOf gd = some (f, first, caps)) (hy : f ≠ yid)
    (hcall : evCall c M.byRef f (first ++ .yl σ.length :: caps) (σ ++ [.lp false hk ps.toList as b (E.map fun p => (p.1, E.get p.1))]) = some (d, σ', live))
    {hk' : Nat → Option (List Nat)} {ps' : List Nat} {as' b' : Code} {E' : List (Nat × D)} (hr : σ'[σ.length]? = some (.lp false hk' ps' as' b' E')) :
    CodeSem M.P n k0 none (.rangeFunc g ps as b) E σ .normal E (σ'.set σ.length (.lp true hk' ps' as' b' E')) := by
  intro m0 X0 X a Q h0 he hX hτ hE hn hmk hQ
  simp only [codeOk, Bool.and_eq_true, List.all_eq_true, decide_eq_true_eq] at hok
  refine wpIn_rangeFunc ?_
  intro fn _
  -- the two blocks
  let ob : Obj := .deferred (some [])
  let Xa : Cx := { X with w := X.w.alloc ob }
  have hea : Ext X Xa := put_ext X ob
  have hsa : StoR Xa := put_sto hX ob
  have hsz : Xa.w.heap.size = X.w.heap.size + 1 := by show (X.w.alloc ob).heap.size = _; simp
  let rec0 : Loop := { state := .ready, pending := none, fn, tmps := a.tmps, params := ps, assign := as, body := b, defers := X.w.heap.size }
  let l : Loc := ⟨X.w.heap.size + 1, 0, 0⟩
  let row0 : Row := .lp false hk ps.toList as b (E.map fun p => (p.1, E.get p.1))
  have hnew : Xa.τ σ.length = none := by
    show X.τ σ.length = none
    rw [hτ]
    exact List.getElem?_eq_none (Nat.le_refl _)
  have hfr := Fresh.alloc Xa.w (.loop rec0)
  let X1 : Cx := Xa.add (Xa.w.alloc (.loop rec0)) σ.length row0 l
  have he1 : Ext Xa X1 := add_ext hfr hnew (by show l.block = _; rw [hsz])
  have hL1 : X1.L σ.length = l := by show upd1 Xa.L σ.length l σ.length = l; rw [upd1_same]
  have hheap1 : X1.w.heap[X.w.heap.size + 1]? = some (.loop rec0) := by
    have := hfr.new
    rw [hsz] at this
    exact this
  have hs1 : StoR X1 := by
    refine add_sto hsa hfr hnew (by show l.block = _; rw [hsz]) ⟨rec0, n, by rw [hL1]; exact hheap1, fun _ => ⟨rfl, rfl⟩, rfl, rfl, rfl, hok.1.2, hok.2, hn, fun p hp => Nat.lt_of_lt_of_le (hok.1.1 p hp) hn, fun p hp => ?_⟩
    obtain ⟨p0, _, rfl⟩ := List.mem_map.1 hp
    exact ((hE p0.1).ext hX hea).ext hsa he1
  have hτ1 : ∀ q, X1.τ q = (σ ++ [row0])[q]? := fun q => by
    show upd1 X.τ σ.length (some row0) q = _
    by_cases e : q = σ.length
    · subst e
      rw [upd1_same]
      simp
    · rw [upd1_ne _ _ e, hτ q]
      rcases Nat.lt_or_ge q σ.length with h | h
      · rw [List.getElem?_append_left h]
      · rw [List.getElem?_eq_none h, List.getElem?_eq_none (by simp; omega)]
  have hyl : DR X1 (.yl σ.length) (.func (.yield (X.w.heap.size + 1)) #[] #[]) := by
    simp only [DR]
    refine ⟨by rw [hL1], false, hk, ps.toList, as, b, (E.map fun p => (p.1, E.get p.1)), ?_⟩
    show upd1 X.τ σ.length (some row0) σ.length = _
    rw [upd1_same]
  -- the function's value
  have hgv : ∃ xs ys : Array Value, a.eval g = .func (.func f) xs ys ∧ xs.size = first.length ∧ ys.size = caps.length ∧ DRs X first (fun j => xs.getD j undef) ∧ DRs X caps (fun j => ys.getD j undef) := by
    have hd : DR X gd (a.eval g) := (OpdR.of_get hX fun t _ => hE t) gd hg
    unfold cloOf at hf
    split at hf
    · simp only [Option.some.injEq, Prod.mk.injEq] at hf
      obtain ⟨rfl, rfl, rfl⟩ := hf
      simp only [DR] at hd
      generalize hu : a.eval g = u at hd
      cases hd
      exact ⟨#[], #[], rfl, rfl, rfl, by simp [DRs], by simp [DRs]⟩
    · simp only [Option.some.injEq, Prod.mk.injEq] at hf
      obtain ⟨rfl, rfl, rfl⟩ := hf
      simp only [DR] at hd
      exact hd
    · cases hf
  obtain ⟨xs, ys, hgv, hxs, hys, hdx, hdy⟩ := hgv
  let us : Array Value := xs ++ #[.func (.yield (X.w.heap.size + 1)) #[] #[]] ++ ys
  have hargs : DRs X1 (first ++ .yl σ.length :: caps) (fun j => us.getD j undef) := by
    have e : (fun j => us.getD j undef) = fun j => (xs.toList ++ ([Value.func (.yield (X.w.heap.size + 1)) #[] #[]] ++ ys.toList)).getD j undef := by
      funext j
      rw [← getD_toList]
      simp [us]
    rw [e]
    refine DRs_append (by simpa using hxs) ?_ ?_
    · simpa only [getD_toList] using DRs.ext hsa he1 (DRs.ext hX hea hdx)
    · show DRs X1 ([.yl σ.length] ++ caps) _
      refine DRs_append rfl ?_ ?_
      · simp only [DRs]
        exact ⟨hyl, trivial⟩
      · simpa only [getD_toList] using DRs.ext hsa he1 (DRs.ext hX hea hdy)
  have hussz : us.size = (first ++ .yl σ.length :: caps).length := by
    simp [us, hxs, hys]
    omega
  have hen := evCall_enters hc hcall hy
  have hp := evCall_pure hcall
  have hrun := evCall_ok hc hcall hs1 hussz hargs (fun q _ => hτ1 q) (fun q hq _ => by
    rw [hτ1 q]
    exact List.getElem?_eq_none hq)
  unfold RunG at hrun
  rw [if_neg hy] at hrun
  refine ⟨X.w.heap.size + 1, [mkD X.w.heap.size], X1.w, { target := .fn (.func f) ys, args := xs ++ #[.func (.yield (X.w.heap.size + 1)) #[] #[]] }, X1.w, f, us, X1.w, ?_, ?_, fun _ _ => trivial, ?_, fun h => by simp [Fence.wide] at h, ?_⟩
  · exact run_enterLoop_outer _ _ _ _ _
  · have hcv : a.eval (.const (.func (.yield (X.w.heap.size + 1)) #[] #[])) = .func (.yield (X.w.heap.size + 1)) #[] #[] := rfl
    simp only [resolve, hgv, Deferred.ofValue, Array.map, List.map_toArray, List.map_cons, List.map_nil, hcv]
    simp [go_sem, hgv, hcv]
  · simp [invoke, go_sem, run_callFunc hen, us]
  · refine callsIn_wide.2 (Calls.mono hrun fun e w' hh => ?_)
    obtain ⟨v, rfl, X', rfl, he', hs', _, hτ'⟩ := hh
    have hτ2 : ∀ q, X'.τ q = σ'[q]? := fun q => by
      rw [hτ']
      show (if _ then _ else _) = _
      split
      · rfl
      · rename_i hno
        rw [not_or] at hno
        rw [hτ1 q]
        rcases Nat.lt_or_ge q (σ ++ [row0]).length with h | h
        · exact (hp.2 q hno.1 h).symm
        · rw [List.getElem?_eq_none h, List.getElem?_eq_none]
          rcases Nat.lt_or_ge q σ'.length with h' | h'
          · exact absurd ⟨h, h'⟩ hno.2
          · exact h'
    have hrow : X'.τ σ.length = some (.lp false hk' ps' as' b' E') := (hτ2 _).trans hr
    have hL' : X'.L σ.length = l := by
      obtain ⟨row', k1, k2⟩ := he'.refs σ.length row0 (by rw [hτ1]; simp)
      have k3 : RowStep (.lp false hk ps.toList as b (E.map fun p => (p.1, E.get p.1))) row' (X1.L σ.length) (X'.L σ.length) := k2
      generalize hl : X1.L σ.length = l1 at k3
      generalize hl' : X'.L σ.length = l2 at k3
      cases k3 with
      | lp _ _ _ _ _ _ _ _ l => rw [← hl, hL1]
    obtain ⟨rec1, n1, g1, g2, _⟩ := hs'.rows σ.length _ hrow
    obtain ⟨g3, g4⟩ := g2 rfl
    have g1' := g1
    rw [hL'] at g1'
    refine ⟨none, X'.w.putObj (X.w.heap.size + 1) (.loop { rec1 with state := .exhausted }), ?_, ?_⟩
    · have := run_endLoop (P := M.P) g1' (by rw [g3]; simp)
      simp only [g4] at this ⊢
      exact this
    · obtain ⟨t1, t2⟩ := lp_turn hs' hrow g1 (rec' := { rec1 with state := .exhausted }) rfl rfl rfl rfl true (fun h => by cases h)
      have hall : Ext X (X'.turn (X'.w.putObj (X'.L σ.length).block (.loop { rec1 with state := .exhausted })) σ.length (.lp true hk' ps' as' b' E')) := ((hea.trans he1).trans he').trans t1
      have hQ' := hQ _ { a with defers := [mkD X.w.heap.size] ++ a.defers } (he.trans hall) t2 (fun q => ?_) (fun t => ?_) rfl ?_
      · rw [hL'] at hQ'
        exact hQ'
      · show upd1 X'.τ σ.length _ q = _
        by_cases e : q = σ.length
        · subst e
          rw [upd1_same, List.getElem?_set_self (List.getElem?_eq_some_iff.1 hr).1]
        · rw [upd1_ne _ _ e, List.getElem?_set_ne (Ne.symm e), hτ2 q]
      · exact (hE t).ext hX hall
      · have hown : ∀ bb, Own X1 bb → bb < X.w.heap.size ∨ bb = X.w.heap.size + 1 := fun bb hb => by
          obtain ⟨q, row, k1, k2, k3⟩ := hb
          by_cases e : q = σ.length
          · subst e
            rw [hL1] at k3
            exact .inr k3.symm
          · have k1' : X.τ q = some row := by
              have : upd1 X.τ σ.length (some row0) q = some row := k1
              rwa [upd1_ne _ _ e] at this
            have kl : X1.L q = X.L q := by
              show upd1 X.L σ.length l q = _
              rw [upd1_ne _ _ e]
            rw [kl] at k2 k3
            exact .inl (Own.lt hX ⟨q, row, k1', k2, k3⟩)
        have hmk1 : Mk m0 X0 X1 { a with defers := [mkD X.w.heap.size] ++ a.defers } := by
          obtain ⟨m0h, ms, m1, m2, m3⟩ := hmk
          refine ⟨m0h, X.w.heap.size :: ms, by simp [m1], List.nodup_cons.2 ⟨fun h => ?_, m2⟩, fun m hm => ?_⟩
          · have := (Array.getElem?_eq_some_iff.1 (m3 _ h).2.1).1
            omega
          · rcases List.mem_cons.1 hm with rfl | hm
            · refine ⟨Nat.le_trans m0h he.size, ?_, fun ho => ?_⟩
              · have h1 : Xa.w.heap[X.w.heap.size]? = some ob := (Fresh.alloc X.w ob).new
                exact (hfr.old (by rw [hsz]; omega)).trans h1
              · rcases hown _ ho with h | h <;> omega
            · obtain ⟨k1, k2, k3⟩ := m3 m hm
              have hlt : m < X.w.heap.size := (Array.getElem?_eq_some_iff.1 k2).1
              refine ⟨k1, ?_, fun ho => ?_⟩
              · exact ((hfr.old (by rw [hsz]; omega)).trans ((Fresh.alloc X.w ob).old hlt)).trans k2
              · have := hea.own m
                rcases he1.own m ho with h | h
                · rcases hea.own m h with h | h
                  · exact k3 h
                  · omega
                · rw [hsz] at h
                  omega
        exact hmk1.ext (he'.trans t1) rfl
end

end Go.Ab

/- All code; bodies; the evaluator. -/
namespace Go.Ab
open Go
variable [Globs]

theorem stop_eq {ts : List Nat} {e : Ex} {E : Env} {σ : Sto} {o : Out} (h : stop ts e E σ = some o) : o = (e, E.keep ts, σ) := by
  simpa [stop] using h.symm

theorem CodeSem.keep {P : Program} {n k0 : Nat} {ro : Option Nat} {b : Code} {E : Env} {σ : Sto} {e : Ex} {E' : Env} {σ' : Sto} (h : CodeSem P n k0 ro b E σ e E' σ') (ts : List Nat) : CodeSem P n k0 ro b E σ e (E'.keep ts) σ' :=
  fun m0 X0 X a Q h0 he hX hτ hE hn hmk hQ => h X0 X a Q h0 he hX hτ hE hn hmk fun X' a' g1 g2 g3 g4 g5 g6 => hQ X' a' g1 g2 g3 (g4.keep ts) g5 g6

theorem onBool_ok {R : Type} {d : D} {yes no : Option R} {r : R} (h : onBool d yes no = some r) : ∃ t, d = .v (.bool t) ∧ (if t then yes else no) = some r := by
  unfold onBool at h
  split at h
  · rename_i t
    exact ⟨t, rfl, by cases t <;> simpa using h⟩
  · cases h

theorem inBlock_ok {R : Type} {id : Nat} {e : Ex} {k : Ex → Option R} {r : R} (h : inBlock id e k = some r) : ∃ e', k e' = some r ∧ (e' = e ∨ (e = .exit id ∧ e' = .normal)) ∧ (∀ i, e' = .exit i → i ≠ id) := by
  unfold inBlock at h
  split at h
  · rename_i i
    by_cases hi : i = id
    · subst hi
      simp at h
      exact ⟨.normal, h, .inr ⟨rfl, rfl⟩, fun i h => by cases h⟩
    · have : (i == id) = false := by simpa using hi
      rw [this, cond_false] at h
      exact ⟨.exit i, h, .inl rfl, fun j hj => by cases hj; exact hi⟩
  · rename_i hne
    exact ⟨e, h, .inl rfl, fun i hi => absurd hi (hne i)⟩

theorem evC_ok {M : Mode} {c : CallerK} (hc : CallerKOk M.P c) (hm : M.P.follows .mixedOrders = true) {lp : Looper} (hlp : LooperOk lp) {hk : Nat → Option (List Nat)} {k0 : Nat} :
    ∀ (b : Code) {R : Type} {E : Env} {σ : Sto} {k : Ex → Env → Sto → Option R} {r : R}, evC M c lp hk k0 b E σ k = some r →
      ∃ e E' σ', k e E' σ' = some r ∧ ∀ n ro, codeOk n b = true → (ro = none ∨ noRange b = true) → CodeSem M.P n k0 ro b E σ e E' σ' := by
  intro b
  induction b with
  | skip =>
    intro R E σ k r h
    exact ⟨.normal, E, σ, h, fun n ro _ _ m0 X0 X a Q h0 he hX hτ hE hn hmk hQ => wpIn_skip (hQ X a he hX hτ hE rfl hmk)⟩
  | label l =>
    intro R E σ k r h
    exact ⟨.normal, E, σ, h, fun n ro _ _ m0 X0 X a Q h0 he hX hτ hE hn hmk hQ => wpIn_label (hQ X a he hX hτ hE rfl hmk)⟩
  | exit id =>
    intro R E σ k r h
    exact ⟨.exit id, E, σ, h, fun n ro _ _ m0 X0 X a Q h0 he hX hτ hE hn hmk hQ => wpIn_exit (hQ X a he hX hτ hE rfl hmk)⟩
  | ret =>
    intro R E σ k r h
    exact ⟨.ret, E, σ, h, fun n ro _ _ m0 X0 X a Q h0 he hX hτ hE hn hmk hQ => wpIn_ret (hQ X a he hX hτ hE rfl hmk)⟩
  | region id ops draw =>
    intro R E σ k r h
    have sem : ∀ {n : Nat} {ro : Option Nat} {E' : Env} {σ' : Sto}, (∀ (X : Cx) (a : Act) (Q : Exit → Act → World → Prop) (ro : Option Nat), StoR X → (∀ q, X.τ q = σ[q]?) → EnvR X E a → n ≤ a.tmps.size → RegionPost X a E' σ' Q → (Code.region id ops draw).wpIn (Fx ro) 0 M.P Q a X.w) →
        CodeSem M.P n k0 ro (.region id ops draw) E σ .normal E' σ' := fun {n} {ro} {E'} {σ'} hs m0 X0 X a Q h0 he hX hτ hE hn hmk hQ =>
      hs X a Q ro hX hτ hE hn fun X' a' g1 g2 g3 g4 g5 g6 => hQ X' a' (he.trans g1) g2 g3 g4 g5 (hmk.ext g1 g6)
    simp only [evC] at h
    split at h
    · obtain ⟨E', σ', h1, h2⟩ := region_ok hc hm h
      exact ⟨.normal, E', σ', h1, fun n ro hok _ => sem (h2 n hok)⟩
    · rename_i ts _
      simp only [Option.bind_eq_some_iff] at h
      obtain ⟨o, h1, h2⟩ := h
      obtain ⟨E', σ', h3, h4⟩ := region_ok hc hm h1
      have := stop_eq h3
      subst this
      exact ⟨.normal, E'.keep ts, σ', h2, fun n ro hok _ => (sem (h4 n hok)).keep ts⟩
  | seq x y ihx ihy =>
    intro R E σ k r h
    simp only [evC] at h
    have c1 : ∀ {n : Nat}, codeOk n (.seq x y) = true → codeOk n x = true ∧ codeOk n y = true := fun hok => by simpa only [codeOk, Bool.and_eq_true] using hok
    have n1 : ∀ {ro : Option Nat}, (ro = none ∨ noRange (.seq x y) = true) → (ro = none ∨ noRange x = true) ∧ (ro = none ∨ noRange y = true) := fun hrg => by
      simp only [noRange, Bool.and_eq_true] at hrg
      exact ⟨hrg.imp id fun h => h.1, hrg.imp id fun h => h.2⟩
    obtain ⟨e1, E1, σ1, h1, s1⟩ := ihx h
    unfold onEx at h1
    split at h1
    · obtain ⟨e2, E2, σ2, h2, s2⟩ := ihy h1
      refine ⟨e2, E2, σ2, h2, fun n ro hok hrg m0 X0 X a Q h0 he hX hτ hE hn hmk hQ => wpIn_seq (s1 n ro (c1 hok).1 (n1 hrg).1 X0 X a _ h0 he hX hτ hE hn hmk fun X' a' g1 g2 g3 g4 g5 g6 => ?_)⟩
      exact s2 n ro (c1 hok).2 (n1 hrg).2 X0 X' a' Q h0 g1 g2 g3 g4 (by rw [g5]; exact hn) g6 fun X'' a'' k1 k2 k3 k4 k5 k6 => hQ X'' a'' k1 k2 k3 k4 (by rw [k5, g5]) k6
    · rename_i hne
      refine ⟨e1, E1, σ1, h1, fun n ro hok hrg m0 X0 X a Q h0 he hX hτ hE hn hmk hQ => wpIn_seq (s1 n ro (c1 hok).1 (n1 hrg).1 X0 X a _ h0 he hX hτ hE hn hmk fun X' a' g1 g2 g3 g4 g5 g6 => ?_)⟩
      have hq := hQ X' a' g1 g2 g3 g4 g5 g6
      cases e1 with
      | normal => exact absurd rfl hne
      | exit id => exact hq
      | ret => exact hq
  | cond x p q ihp ihq =>
    intro R E σ k r h
    simp only [evC, Option.bind_eq_some_iff] at h
    obtain ⟨d, hd, h⟩ := h
    have c1 : ∀ {n : Nat}, codeOk n (.cond x p q) = true → codeOk n p = true ∧ codeOk n q = true := fun hok => by simpa only [codeOk, Bool.and_eq_true] using hok
    have n1 : ∀ {ro : Option Nat}, (ro = none ∨ noRange (.cond x p q) = true) → (ro = none ∨ noRange p = true) ∧ (ro = none ∨ noRange q = true) := fun hrg => by
      simp only [noRange, Bool.and_eq_true] at hrg
      exact ⟨hrg.imp id fun h => h.1, hrg.imp id fun h => h.2⟩
    -- which way
    have way : ∀ {R' : Type} {yes no : Option R'} {r' : R'}, onBool d yes no = some r' → ∃ t, d = .v (.bool t) ∧ (if t then yes else no) = some r' := onBool_ok
    have sem : ∀ {n : Nat} {ro : Option Nat} {t : Bool} {e : Ex} {E' : Env} {σ' : Sto}, d = .v (.bool t) → CodeSem M.P n k0 ro (if t then p else q) E σ e E' σ' → CodeSem M.P n k0 ro (.cond x p q) E σ e E' σ' := by
      intro n ro t e E' σ' hdt hs m0 X0 X a Q h0 he hX hτ hE hn hmk hQ
      have hx : DR X d (a.eval x) := (OpdR.of_get hX fun t _ => hE t) d hd
      rw [hdt] at hx
      simp only [DR] at hx
      generalize hu : a.eval x = u at hx
      cases hx
      exact wpIn_cond hu (hs X0 X a Q h0 he hX hτ hE hn hmk hQ)
    split at h
    · obtain ⟨t, ht, h⟩ := way h
      cases t with
      | true =>
        obtain ⟨e, E', σ', h1, s⟩ := ihp (by simpa using h)
        exact ⟨e, E', σ', h1, fun n ro hok hrg => sem ht (by simpa using s n ro (c1 hok).1 (n1 hrg).1)⟩
      | false =>
        obtain ⟨e, E', σ', h1, s⟩ := ihq (by simpa using h)
        exact ⟨e, E', σ', h1, fun n ro hok hrg => sem ht (by simpa using s n ro (c1 hok).2 (n1 hrg).2)⟩
    · rename_i ts _
      simp only [Option.bind_eq_some_iff] at h
      obtain ⟨o, h, hk'⟩ := h
      obtain ⟨t, ht, h⟩ := way h
      cases t with
      | true =>
        obtain ⟨e, E', σ', h1, s⟩ := ihp (by simpa using h)
        have := stop_eq h1
        subst this
        exact ⟨e, _, σ', hk', fun n ro hok hrg => sem ht (by simpa using (s n ro (c1 hok).1 (n1 hrg).1).keep ts)⟩
      | false =>
        obtain ⟨e, E', σ', h1, s⟩ := ihq (by simpa using h)
        have := stop_eq h1
        subst this
        exact ⟨e, _, σ', hk', fun n ro hok hrg => sem ht (by simpa using (s n ro (c1 hok).2 (n1 hrg).2).keep ts)⟩
  | block id b ih =>
    intro R E σ k r h
    simp only [evC] at h
    have sem : ∀ {n : Nat} {ro : Option Nat} {e e' : Ex} {E' : Env} {σ' : Sto}, (e' = e ∨ (e = .exit id ∧ e' = .normal)) → (∀ i, e' = .exit i → i ≠ id) → CodeSem M.P n k0 ro b E σ e E' σ' → CodeSem M.P n k0 ro (.block id b) E σ e' E' σ' := by
      intro n ro e e' E' σ' hee hni hs m0 X0 X a Q h0 he hX hτ hE hn hmk hQ
      refine wpIn_block (hs X0 X a _ h0 he hX hτ hE hn hmk fun X' a' g1 g2 g3 g4 g5 g6 => ?_)
      have hq := hQ X' a' g1 g2 g3 g4 g5 g6
      rcases hee with rfl | ⟨rfl, rfl⟩
      · cases e' with
        | normal => exact hq
        | ret => exact hq
        | exit i =>
          have := hni i rfl
          simp only [Ex.exit', Exit.inBlock, if_neg this]
          exact hq
      · simp only [Ex.exit', Exit.inBlock, if_true]
        exact hq
    split at h
    · obtain ⟨e, E', σ', h1, s⟩ := ih h
      obtain ⟨e', h2, h3, h4⟩ := inBlock_ok h1
      exact ⟨e', E', σ', h2, fun n ro hok hrg => sem h3 h4 (s n ro (by simpa only [codeOk] using hok) (by simpa only [noRange] using hrg))⟩
    · rename_i ts _
      simp only [Option.bind_eq_some_iff] at h
      obtain ⟨o, h, h5⟩ := h
      obtain ⟨e, E', σ', h1, s⟩ := ih h
      have := stop_eq h1
      subst this
      obtain ⟨e', h2, h3, h4⟩ := inBlock_ok h5
      exact ⟨e', _, σ', h2, fun n ro hok hrg => sem h3 h4 ((s n ro (by simpa only [codeOk] using hok) (by simpa only [noRange] using hrg)).keep ts)⟩
  | loop b ih =>
    intro R E σ k r h
    simp only [evC, Option.bind_eq_some_iff] at h
    obtain ⟨ts, hts, o, h1, h2⟩ := h
    have hrun := hlp _ _ _ _ _ _ h1
    refine ⟨o.1, o.2.1, o.2.2, h2, fun n ro hok hrg m0 X0 X a Q h0 he hX hτ hE hn hmk hQ => wp_loop_of (loop_ok (ts := ts) (fun E σ o h => ?_) hrun X0 X a Q h0 he hX hτ (hE.keep ts) hn hmk hQ)⟩
    obtain ⟨e, E', σ', h3, s⟩ := ih h
    have := stop_eq h3
    subst this
    exact ⟨E', rfl, s n ro (by simpa only [codeOk] using hok) (by simpa only [noRange] using hrg)⟩
  | rangeFunc g ps as b _ _ =>
    intro R E σ k r h
    simp only [evC, Option.bind_eq_some_iff] at h
    obtain ⟨gd, hg, ⟨f, first, caps⟩, hf, h⟩ := h
    obtain ⟨hy, h⟩ := bif_some' h
    obtain ⟨c1, hc1, d, σ', live, h1, h⟩ := evCallK_ok hc h
    split at h
    · rename_i hk' ps' as' b' E' hr
      refine ⟨.normal, E, _, h, fun n ro hok hrg => ?_⟩
      rcases hrg with rfl | hrg
      · exact range_sem hc1 hok hg hf (by simpa using hy) h1 hr
      · simp [noRange] at hrg
    · cases h
  | _ =>
    intro R E σ k r h
    simp [evC] at h


end Go.Ab

/- Bodies; the evaluator. -/
namespace Go.Ab
open Go
variable [Globs]

theorem settleCell_ok {X : Cx} (hX : StoR X) {σ σ' : Sto} (hτ : ∀ q, X.τ q = σ[q]?) {d d' : D} {u : Value} (hd : DR X d u) (h : settleCell σ d = some (d', σ')) :
    ∃ X', X'.w = X.w ∧ Ext X X' ∧ StoR X' ∧ (∀ q, X'.τ q = σ'[q]?) ∧ DR X' d' u := by
  unfold settleCell at h
  split at h
  · rename_i r g m off n
    simp only [Option.bind_eq_some_iff, Option.some.injEq, Prod.mk.injEq] at h
    obtain ⟨xs, h1, rfl, rfl⟩ := h
    obtain ⟨X', f, hv⟩ := toV_ok hX hd (fun q _ => hτ q) (v := .sl m (window xs off n)) (σ' := σ.set r (.frz m g xs)) (by simp [toV, h1])
    refine ⟨X', f.w, f.ext, f.sto, fun q => ?_, ?_⟩
    · by_cases hq : q ∈ refsD (.rs r g m off n)
      · exact f.ins q hq
      · rw [f.out q hq, hτ, f.keep q hq]
    · simp only [DR]
      exact VR_sl.1 hv
  · simp only [Option.some.injEq, Prod.mk.injEq] at h
    obtain ⟨rfl, rfl⟩ := h
    simp only [DR] at hd
    exact ⟨X, rfl, Ext.refl X, hX, hτ, by simp only [DR]; exact ⟨_, hd⟩⟩
  · simp only [Option.some.injEq, Prod.mk.injEq] at h
    obtain ⟨rfl, rfl⟩ := h
    exact ⟨X, rfl, Ext.refl X, hX, hτ, hd⟩

theorem settleCells_ok : ∀ {ds ds' : List D} {X : Cx} {σ σ' : Sto} {us : Nat → Value}, StoR X → (∀ q, X.τ q = σ[q]?) → DRs X ds us → settleCells σ ds = some (ds', σ') →
    ds'.length = ds.length ∧ ∃ X', X'.w = X.w ∧ Ext X X' ∧ StoR X' ∧ (∀ q, X'.τ q = σ'[q]?) ∧ DRs X' ds' us
  | [], ds', X, σ, σ', us, hX, hτ, _, h => by
    simp only [settleCells, Option.some.injEq, Prod.mk.injEq] at h
    obtain ⟨rfl, rfl⟩ := h
    exact ⟨rfl, X, rfl, Ext.refl X, hX, hτ, by simp [DRs]⟩
  | d :: ds, ds', X, σ, σ', us, hX, hτ, hd, h => by
    simp only [settleCells, Option.bind_eq_some_iff, Option.some.injEq, Prod.mk.injEq] at h
    obtain ⟨⟨d1, σ1⟩, h1, ⟨ds1, σ2⟩, h2, rfl, rfl⟩ := h
    simp only [DRs] at hd
    obtain ⟨X1, a1, a2, a3, a4, a5⟩ := settleCell_ok hX hτ hd.1 h1
    obtain ⟨b0, X2, b1, b2, b3, b4, b5⟩ := settleCells_ok a3 a4 (DRs.ext hX a2 hd.2) h2
    exact ⟨by simp [b0], X2, b1.trans a1, a2.trans b2, b3, b4, by simp only [DRs]; exact ⟨a5.ext a3 b2, b5⟩⟩

theorem settle_ok {X : Cx} (hX : StoR X) {σ σ' : Sto} (hτ : ∀ q, X.τ q = σ[q]?) {d d' : D} {u : Value} (hd : DR X d u) (h : settle σ d = some (d', σ')) :
    ∃ X', X'.w = X.w ∧ Ext X X' ∧ StoR X' ∧ (∀ q, X'.τ q = σ'[q]?) ∧ DR X' d' u := by
  unfold settle at h
  split at h
  · simp only [Option.bind_eq_some_iff, Option.some.injEq, Prod.mk.injEq] at h
    obtain ⟨⟨cs, σ1⟩, h1, rfl, rfl⟩ := h
    simp only [DR] at hd
    obtain ⟨xs, e1, e2, e3, e4⟩ := hd
    obtain ⟨b0, X', b1, b2, b3, b4, b5⟩ := settleCells_ok hX hτ e4 h1
    exact ⟨X', b1, b2, b3, b4, by simp only [DR]; exact ⟨xs, e1, by rw [b0]; exact e2, e3, b5⟩⟩
  · simp only [Option.some.injEq, Prod.mk.injEq] at h
    obtain ⟨rfl, rfl⟩ := h
    exact ⟨X, rfl, Ext.refl X, hX, hτ, hd⟩

theorem settles_ok : ∀ {ds ds' : List D} {X : Cx} {σ σ' : Sto} {us : Nat → Value}, StoR X → (∀ q, X.τ q = σ[q]?) → DRs X ds us → settles σ ds = some (ds', σ') →
    ds'.length = ds.length ∧ ∃ X', X'.w = X.w ∧ Ext X X' ∧ StoR X' ∧ (∀ q, X'.τ q = σ'[q]?) ∧ DRs X' ds' us
  | [], ds', X, σ, σ', us, hX, hτ, _, h => by
    simp only [settles, Option.some.injEq, Prod.mk.injEq] at h
    obtain ⟨rfl, rfl⟩ := h
    exact ⟨rfl, X, rfl, Ext.refl X, hX, hτ, by simp [DRs]⟩
  | d :: ds, ds', X, σ, σ', us, hX, hτ, hd, h => by
    simp only [settles, Option.bind_eq_some_iff, Option.some.injEq, Prod.mk.injEq] at h
    obtain ⟨⟨d1, σ1⟩, h1, ⟨ds1, σ2⟩, h2, rfl, rfl⟩ := h
    simp only [DRs] at hd
    obtain ⟨X1, a1, a2, a3, a4, a5⟩ := settle_ok hX hτ hd.1 h1
    obtain ⟨b0, X2, b1, b2, b3, b4, b5⟩ := settles_ok a3 a4 (DRs.ext hX a2 hd.2) h2
    exact ⟨by simp [b0], X2, b1.trans a1, a2.trans b2, b3, b4, by simp only [DRs]; exact ⟨a5.ext a3 b2, b5⟩⟩

theorem settlesB_ok {b : Bool} {ds ds' : List D} {X : Cx} {σ σ' : Sto} {us : Nat → Value} (hX : StoR X) (hτ : ∀ q, X.τ q = σ[q]?) (hd : DRs X ds us) (h : settlesB b σ ds = some (ds', σ')) :
    ds'.length = ds.length ∧ ∃ X', X'.w = X.w ∧ Ext X X' ∧ StoR X' ∧ (∀ q, X'.τ q = σ'[q]?) ∧ DRs X' ds' us := by
  unfold settlesB at h
  cases b with
  | false => exact settles_ok hX hτ hd h
  | true =>
    simp only [cond_true, Option.some.injEq, Prod.mk.injEq] at h
    obtain ⟨rfl, rfl⟩ := h
    exact ⟨rfl, X, rfl, Ext.refl X, hX, hτ, hd⟩

/-- What a frame hands back. -/
def out1 (vs : List Value) : Value := match vs with | [v] => v | vs => .tuple vs.toArray
def outD (ds : List D) : D := match ds with | [d] => d | ds => .tup ds

theorem out_ok {X : Cx} {ds : List D} {vs : List Value} (hl : ds.length = vs.length) (hd : DRs X ds (fun j => vs.getD j undef)) : DR X (outD ds) (out1 vs) := by
  match ds, vs, hl with
  | [], [], _ => simp [outD, out1, DR, DRs]
  | [d], [v], _ =>
    simp only [outD, out1]
    simp only [DRs, List.getD_cons_zero] at hd
    exact hd.1
  | d :: e :: ds, v :: w :: vs, hl =>
    simp only [outD, out1, DR]
    refine ⟨_, rfl, by simpa using hl.symm, ?_⟩
    have : (fun j => (v :: w :: vs).toArray.getD j undef) = fun j => (v :: w :: vs).getD j undef := by funext j; rw [← getD_toList]
    rw [this]
    exact hd

/-- One result of a frame. -/
def resOf (a : Act) : ResultVar → Sem Value
  | .tmp t => pure (a.tmps.getD t undef)
  | .cell c t => do loadVar t (← asAddr (a.tmps.getD c undef))

theorem results_eq (fn : Func) (a : Act) : results fn a.tmps = (do let vs ← fn.results.mapM (resOf a); pure (if h : vs.size = 1 then vs[0] else .tuple vs)) := by
  unfold results
  congr 2

theorem results_ok {P : Program} {X : Cx} (hX : StoR X) {σ : Sto} (hτ : ∀ q, X.τ q = σ[q]?) {E : Env} {a : Act} (hE : EnvR X E a) : ∀ {rs : List ResultVar} {ds : List D}, resultsOf P E σ rs = some ds →
    ∃ vs : List Value, vs.length = ds.length ∧ DRs X ds (fun j => vs.getD j undef) ∧
      (rs.mapM (resOf a)).run P X.w = .ok vs X.w
  | [], ds, h => by
    simp only [resultsOf, Option.some.injEq] at h
    subst h
    exact ⟨[], rfl, by simp [DRs], by simp⟩
  | .tmp t :: rs, ds, h => by
    simp only [resultsOf, Option.bind_eq_some_iff, Option.some.injEq] at h
    obtain ⟨l, h1, rfl⟩ := h
    obtain ⟨vs, h2, h3, h4⟩ := results_ok hX hτ hE h1
    refine ⟨a.tmps.getD t undef :: vs, by simp [h2], by simp only [DRs, List.getD_cons_zero, List.getD_cons_succ]; exact ⟨hE t, h3⟩, ?_⟩
    simp only [List.mapM_cons, Sem.run_bind, Sem.run_pure, Result.andThen_ok, h4, resOf]
  | .cell c t :: rs, ds, h => by
    simp only [resultsOf, Option.bind_eq_some_iff, Option.some.injEq] at h
    obtain ⟨n, hn, ag, hag, d, hd, l, h1, rfl⟩ := h
    obtain ⟨vs, h2, h3, h4⟩ := results_ok hX hτ hE h1
    simp only [ld, Option.bind_eq_some_iff] at hd
    obtain ⟨cs, k1, k2⟩ := hd
    have hc := hE c
    obtain ⟨b, off, us, k3, k4, k5, k6, k7⟩ := loadCells_ok hX hc (fun r _ => hτ r) k1
    obtain ⟨k8, k9⟩ := packD_ok k2 k4 k6 k7
    refine ⟨_ :: vs, by simp [h2], by simp only [DRs, List.getD_cons_zero, List.getD_cons_succ]; exact ⟨k8, h3⟩, ?_⟩
    have ha : a.tmps.getD c undef = .pointer (some (at_ b off)) := k3
    have hl := run_loadVar_ok (P := P) (X := X) hn hag k9 k5
    have hA : (asAddr (a.tmps.getD c undef)).run P X.w = .ok (at_ b off) X.w := by rw [ha]; simp [asAddr]
    simp only [List.mapM_cons, Sem.run_bind, resOf, hA, Sem.run_pure, Result.andThen_ok, hl]
    rw [show (List.mapM (resOf a) rs).run P X.w = _ from h4]
    simp only [Result.andThen_ok]

theorem params_get : ∀ (ds : List D) (i t : Nat), (params i ds).get t = if i ≤ t then (ds[t - i]?).getD .undef else .undef
  | [], i, t => by simp [params, Env.get]
  | d :: ds, i, t => by
    simp only [params, get_cons, params_get ds (i + 1) t]
    by_cases e : i = t
    · subst e; simp
    · rw [if_neg e]
      by_cases h : i ≤ t
      · rw [if_pos h, if_pos (by omega), show t - i = (t - (i + 1)) + 1 by omega]
        simp
      · rw [if_neg h, if_neg (by omega)]

/-- A block of deferred calls is shut. -/
theorem shut_ok {X0 X : Cx} (hX : StoR X) (he : Ext X0 X) {m : Nat} (h0 : X0.w.heap.size ≤ m) (hm : X.w.heap[m]? = some (.deferred (some []))) (hno : ¬ Own X m) :
    Kept X { X with w := X.w.putObj m (.deferred none) } ∧ Ext X0 { X with w := X.w.putObj m (.deferred none) } ∧ StoR { X with w := X.w.putObj m (.deferred none) } := by
  have ht := touched_put X.w m (.deferred none)
  have hk : Kept X { X with w := X.w.putObj m (.deferred none) } := put_kept hX (fun c e f h => by rw [hm] at h; cases h) ht.blk
  refine ⟨hk, ⟨he.os, he.tape, he.output, by show X0.w.heap.size ≤ (X.w.putObj _ _).heap.size; rw [World.putObj_size]; exact he.size, fun b hb hn => (ht.blk b (by omega)).trans (he.blk b hb hn), he.own, he.S, he.T, he.nS, he.nT, he.refs, he.drawn⟩,
    ⟨fun r row hr => (hX.rows r row hr).kept hk rfl fun ho => ht.blk _ fun e => hno ⟨r, row, hr, ho, e⟩, hX.inj, hX.sep, hX.sub, fun b o hb => ?_, GlobR.kept hk hX.glob fun g c e f hg _ => ht.blk g fun e' => by subst e'; rw [hm] at hg; cases hg⟩⟩
  obtain ⟨u, hu⟩ := hX.live b o hb
  exact ⟨u, (hk.cellT b o hb).trans hu⟩

/-- Behind a body: the marks are taken; the results go out. -/
theorem leave_ok {P : Program} {fn : Func} {k0 : Nat} {X0 : Cx} (h0 : ∀ q, k0 ≤ q → X0.τ q = none) {E' : Env} {σ1 σ' : Sto} {d : D} {tmps : Array Value} {R : Ending → World → Prop}
    {kb : Bool} (hfin : ((resultsOf P E' σ1 fn.results.toList).bind fun res => finish kb k0 res σ1) = some (d, σ'))
    (hR : ∀ v X', Ext X0 X' → StoR X' → (∀ q, X'.τ q = σ'[q]?) → DR X' d v → R (.returned v) X'.w) :
    ∀ (ms : List Nat) (X1 : Cx), ms.Nodup → (∀ m ∈ ms, X0.w.heap.size ≤ m ∧ X1.w.heap[m]? = some (.deferred (some [])) ∧ ¬ Own X1 m) → Ext X0 X1 → StoR X1 → (∀ q, X1.τ q = σ1[q]?) → EnvR X1 E' { tmps := tmps, defers := [] } →
      LeavesInM (Fx none) 0 P fn tmps R (ms.map mkD) .returning X1.w
  | [], X1, _, _, g1, g2, g3, g4 => by
    simp only [finish, Option.bind_eq_some_iff, Option.some.injEq, Prod.mk.injEq] at hfin
    obtain ⟨res, r1, ⟨res', σ2⟩, r2, live, r3, rows, r4, r5, r6⟩ := hfin
    obtain ⟨vs, v1, v2, v3⟩ := results_ok g2 g3 g4 r1
    obtain ⟨s0, X2, s1, s2, s3, s4, s5⟩ := settlesB_ok g2 g3 v2 r2
    obtain ⟨hnd, _, htodo, hclo⟩ := reach_ok 1000 _ _ _ r3 List.nodup_nil (by simp)
    have hpre : ∃ more, live = List.range k0 ++ more := by
      rw [List.range_eq_range'] at r3
      exact reach_range k0 0 1000 _ live (by omega) (by simpa using r3)
    have hcl : ∀ q ∈ live, ∃ row, X2.τ q = some row ∧ ∀ p ∈ refsRow row, p ∈ live := fun q hq => by
      obtain ⟨row, e1, e2⟩ := hclo q hq
      exact ⟨row, by rw [s4 q]; exact e1, e2⟩
    have hD : DRs (X2.sel live []) (renDs (fun q => idxOf q live) res') (fun j => vs.getD j undef) := DRs.ren (sel_ren X2 []) (.inl fun _ _ h => .inl h) s5 fun q hq => htodo q (List.mem_append_right _ hq)
    have hout := out_ok (by rw [renDs_length, s0, v1]) hD
    have hv : ∃ v, (results fn tmps).run P X1.w = .ok v X1.w ∧ v = out1 vs := by
      refine ⟨out1 vs, ?_, rfl⟩
      have : (fn.results.mapM (resOf { tmps := tmps, defers := [] })).run P X1.w = .ok vs.toArray X1.w := by
        rw [Array.mapM_eq_mapM_toList]
        simp only [Sem.run_map, v3, Result.andThen_ok]
      have he := results_eq fn { tmps := tmps, defers := [] }
      simp only at he
      simp only [he, Sem.run_bind, this, Result.andThen_ok, Sem.run_pure]
      congr 1
      match vs with
      | [] => rfl
      | [v] => rfl
      | v :: w :: vs => simp [out1]
    obtain ⟨v, hv1, hv2⟩ := hv
    show ∃ v, (results fn tmps).run P X1.w = .ok v X1.w ∧ R (.returned v) X1.w
    refine ⟨v, hv1, ?_⟩
    have := hR v (X2.sel live []) (sel_ext0 (k0 := k0) h0 (g1.trans s2) hpre) (sel_sto s3 hnd hcl (by simp)) (fun q => by
      rw [← r6]
      exact sel_tau (fun q _ => s4 q) r4 q) (by
      rw [← r5, hv2]
      exact hout)
    have hw : (X2.sel live []).w = X1.w := s1
    rw [hw] at this
    exact this
  | m :: ms, X1, hnd, hms, g1, g2, g3, g4 => by
    obtain ⟨m1, m2, m3⟩ := hms m (by simp)
    obtain ⟨k1, k2, k3⟩ := shut_ok g2 g1 m1 m2 m3
    rw [List.nodup_cons] at hnd
    refine ⟨by simp, .inl ⟨m, X1.w.putObj m (.deferred none), rfl, run_takeDeferred m2, ?_⟩⟩
    exact leave_ok h0 hfin hR ms { X1 with w := X1.w.putObj m (.deferred none) } hnd.2 (fun m' hm' => by
      obtain ⟨n1, n2, n3⟩ := hms m' (by simp [hm'])
      exact ⟨n1, (World.putObj_heap_other (fun e : m' = m => hnd.1 (by rw [← e]; exact hm'))).trans n2, n3⟩) k2 k3 g3 (fun t => DR.kept k1 (g4 t))

theorem params_env {X : Cx} {args : List D} {us : Array Value} {n : Nat} (hsz : us.size = args.length) (hd : DRs X args (fun j => us.getD j undef)) :
    EnvR X (params 0 args) { tmps := us ++ Array.replicate n undef, defers := [] } := fun t => by
  rw [params_get]
  simp only [Nat.zero_le, if_true, Nat.sub_zero]
  cases ht : args[t]? with
  | none => simp [DR]
  | some dt =>
    have hlt : t < us.size := by rw [hsz]; exact (List.getElem?_eq_some_iff.1 ht).1
    have := DRs_iff.1 hd t dt ht
    have e : Act.eval { tmps := us ++ Array.replicate n undef, defers := [] } (.tmp t) = us.getD t undef := by
      simp only [Act.eval, Array.getD_eq_getD_getElem?]
      rw [Array.getElem?_append_left hlt]
    simp only [Option.getD_some]
    rw [e]
    exact this

theorem evBodyK_ok {M : Mode} {c : CallerK} (hc : CallerKOk M.P c) (hm : M.P.follows .mixedOrders = true) {lp : Looper} (hlp : LooperOk lp) {f : FuncId}
    (hok : ∀ (fn : Func) (body : Code), M.P.funcs[f]? = some fn → fn.body = some body → fnOk fn body = true) {args : List D} {σ : Sto} {R : Type} {K : D → Sto → Option R} {r : R} (h : evBodyK M c lp f args σ K = some r) :
    ∃ d σ', K d σ' = some r ∧ Enters M.P f ∧ ∀ (X : Cx) (us : Array Value), StoR X → (∀ q, X.τ q = σ[q]?) → us.size = args.length → DRs X args (fun j => us.getD j undef) →
      Calls M.P f us X.w fun e w' => ∃ v, e = .returned v ∧ ∃ X', X'.w = w' ∧ Ext X X' ∧ StoR X' ∧ (∀ q, X'.τ q = σ'[q]?) ∧ DR X' d v := by
  simp only [evBodyK, fd_eq, fds_eq, fs_eq, finishK_eq, Option.bind_eq_some_iff] at h
  obtain ⟨fn, hfn, body, hb, h⟩ := h
  have hfok := hok fn body hfn hb
  simp only [fnOk, Bool.and_eq_true, Bool.not_eq_true'] at hfok
  obtain ⟨e, E', σ1, h1, hsem0⟩ := evC_ok hc hm hlp body h
  have hsem := hsem0 _ none hfok.2 (.inl rfl)
  have hx : (∀ i, e ≠ .exit i) ∧ ∃ d σ', ((resultsOf M.P E' σ1 fn.results.toList).bind fun res => finish (M.keep f) σ.length res σ1) = some (d, σ') ∧ K d σ' = some r := by
    cases e with
    | exit i => cases h1
    | normal =>
      simp only [noExit, Option.bind_eq_some_iff] at h1
      obtain ⟨res, a1, p, a2, a3⟩ := h1
      exact ⟨by simp, p.1, p.2, by simp [a1, a2], a3⟩
    | ret =>
      simp only [noExit, Option.bind_eq_some_iff] at h1
      obtain ⟨res, a1, p, a2, a3⟩ := h1
      exact ⟨by simp, p.1, p.2, by simp [a1, a2], a3⟩
  obtain ⟨hne, d, σ', hfin, hK⟩ := hx
  refine ⟨d, σ', hK, ⟨fn, hfn, hfok.1, by rw [hb]; rfl⟩, fun X us hX hτ hsz hd => ?_⟩
  refine callsIn_wide.1 (callsIn_of_wp_marks (F := Fx none) (n := 0) hfn hb trivial ?_)
  have h0 : ∀ q, σ.length ≤ q → X.τ q = none := fun q hq => by rw [hτ q]; exact List.getElem?_eq_none hq
  refine hsem X X { tmps := us ++ Array.replicate (fn.ntmps - us.size) undef, defers := [] } _ h0 (Ext.refl X) hX hτ (params_env hsz hd) (by simp; omega) (Mk.nil rfl) fun X1 a1 g1 g2 g3 g4 g5 g6 => ?_
  obtain ⟨_, ms, m1, m2, m3⟩ := g6
  have post : LeavesInM (Fx none) 0 M.P fn a1.tmps (fun e w' => ∃ v, e = .returned v ∧ ∃ X', X'.w = w' ∧ Ext X X' ∧ StoR X' ∧ (∀ q, X'.τ q = σ'[q]?) ∧ DR X' d v) a1.defers .returning X1.w := by
    rw [m1]
    exact leave_ok h0 hfin (fun v X' k1 k2 k3 k4 => ⟨v, rfl, X', rfl, k1, k2, k3, k4⟩) ms X1 m2 m3 g1 g2 g3 (fun t => g4 t)
  cases e with
  | exit i => exact absurd rfl (hne i)
  | normal => exact post
  | ret => exact post

/-- yield's arguments go to the record's parameters. -/

theorem evBody_ok {M : Mode} {c : CallerK} (hc : CallerKOk M.P c) (hm : M.P.follows .mixedOrders = true) {lp : Looper} (hlp : LooperOk lp) {f : FuncId}
    (hok : ∀ (fn : Func) (body : Code), M.P.funcs[f]? = some fn → fn.body = some body → fnOk fn body = true) {args : List D} {σ σ' : Sto} {d : D} (h : evBody M c lp f args σ = some (d, σ')) :
    Enters M.P f ∧ ∀ (X : Cx) (us : Array Value), StoR X → (∀ q, X.τ q = σ[q]?) → us.size = args.length → DRs X args (fun j => us.getD j undef) →
      Calls M.P f us X.w fun e w' => ∃ v, e = .returned v ∧ ∃ X', X'.w = w' ∧ Ext X X' ∧ StoR X' ∧ (∀ q, X'.τ q = σ'[q]?) ∧ DR X' d v := by
  obtain ⟨d0, σ0, h1, h2⟩ := evBodyK_ok hc hm hlp hok h
  cases h1
  exact h2

theorem zip_env {X : Cx} : ∀ (ps : List Nat) (xs : List D) (vals : List Value) (E : Env) (tmps : Array Value), xs.length = ps.length → vals.length = ps.length → (∀ p ∈ ps, p < tmps.size) → EnvR X E { tmps := tmps, defers := [] } → DRs X xs (fun j => vals.getD j undef) →
    EnvR X ((ps.zip xs).foldl (fun E p => p :: E) E) { tmps := (ps.zip vals).foldl (fun tmps (t, a) => tmps.setIfInBounds t a) tmps, defers := [] } ∧ ((ps.zip vals).foldl (fun tmps (t, a) => tmps.setIfInBounds t a) tmps).size = tmps.size
  | [], xs, vals, E, tmps, _, _, _, hE, _ => by simpa using hE
  | p :: ps, [], vals, E, tmps, h, _, _, _, _ => by simp at h
  | p :: ps, x :: xs, [], E, tmps, _, h, _, _, _ => by simp at h
  | p :: ps, x :: xs, v :: vals, E, tmps, h1, h2, hp, hE, hd => by
    simp only [DRs, List.getD_cons_zero, List.getD_cons_succ] at hd
    have := zip_env ps xs vals ((p, x) :: E) (tmps.setIfInBounds p v) (by simpa using h1) (by simpa using h2) (fun q hq => by rw [Array.size_setIfInBounds]; exact hp q (by simp [hq])) (fun t => by
      rw [get_cons]
      by_cases e : p = t
      · subst e
        rw [if_pos rfl]
        have : Act.eval { tmps := tmps.setIfInBounds p v, defers := [] } (.tmp p) = v := by simp [Act.eval, hp p (by simp)]
        rw [this]
        exact hd.1
      · rw [if_neg e]
        have : Act.eval { tmps := tmps.setIfInBounds p v, defers := [] } (.tmp t) = Act.eval { tmps := tmps, defers := [] } (.tmp t) := by
          simp [Act.eval, Array.getElem?_setIfInBounds_ne e]
        rw [this]
        exact hE t) hd.2
    simp only [List.zip_cons_cons, List.foldl_cons]
    refine ⟨this.1, ?_⟩
    rw [this.2, Array.size_setIfInBounds]

theorem env_of_all {X : Cx} {tmps : Array Value} : ∀ {E : Env}, (∀ p ∈ E, DR X p.2 (tmps.getD p.1 undef)) → EnvR X E { tmps := tmps, defers := [] }
  | [], _ => fun t => by simp [Env.get, DR]
  | (u, d) :: E, h => fun t => by
    rw [get_cons]
    by_cases e : u = t
    · subst e
      rw [if_pos rfl]
      exact h (u, d) (by simp)
    · rw [if_neg e]
      exact env_of_all (fun p hp => h p (by simp [hp])) t

theorem evYl_ok {M : Mode} {c : CallerK} (hc : CallerKOk M.P c) (hm : M.P.follows .mixedOrders = true) {lp : Looper} (hlp : LooperOk lp) {args : List D} {σ : Sto} {R : Type} {K : D → Sto → Option R} {r : R} (h : evYl M c lp args σ K = some r) :
    ∃ d σ', K d σ' = some r ∧ ∀ (X : Cx) (us : Array Value), StoR X → (∀ q, X.τ q = σ[q]?) → us.size = args.length → DRs X args (fun j => us.getD j undef) →
      YieldG M.P us X.w fun e w' => ∃ v, e = .returned v ∧ ∃ X', X'.w = w' ∧ Ext X X' ∧ StoR X' ∧ (∀ q, X'.τ q = σ'[q]?) ∧ DR X' d v := by
  unfold evYl at h
  split at h
  · rename_i r xs
    split at h
    · rename_i hk ps as b E hσ
      obtain ⟨hck, h⟩ := bif_some h
      simp only [Bool.and_eq_true, beq_iff_eq] at hck
      obtain ⟨⟨hna, hnb⟩, hpl⟩ := hck
      obtain ⟨e1, E2, σ2, h1, sem1⟩ := evC_ok hc hm hlp as h
      cases e1 with
      | exit i => cases h1
      | ret => cases h1
      | normal =>
      simp only [onEx] at h1
      split at h1
      · rename_i hk2 ps2 as2 b2 E3 hσ2
        obtain ⟨e3, E4, σ3, h3, sem2⟩ := evC_ok hc hm hlp b h1
        cases e3 with
        | exit i => cases h3
        | ret => cases h3
        | normal =>
        simp only [onEx] at h3
        split at h3
        · rename_i hk4 ps4 as4 b4 E5 hσ3
          simp only [fs_eq, finishK_eq, Option.bind_eq_some_iff] at h3
          obtain ⟨⟨d1, σ5⟩, h4, h5⟩ := h3
          refine ⟨d1, σ5, h5, fun X us hX hτ hsz hd ro => ?_⟩
          have hr0 : X.τ r = some (.lp false hk ps as b E) := by rw [hτ, hσ]
          obtain ⟨rec, n, g1, g2, g4, g5, g6, g7, g8, g9, g10, g11⟩ := hX.rows r _ hr0
          obtain ⟨gst, gpe⟩ := g2 rfl
          simp only [DRs, DR] at hd
          obtain ⟨⟨hy1, _⟩, hdx⟩ := hd
          have husz : 0 < us.size := by rw [hsz]; simp
          have hvl : (us.extract 1 us.size).toList.length = ps.length := by
            simp [hsz, hpl]
          have hval : ∀ j, (us.extract 1 us.size).toList.getD j undef = us.getD (j + 1) undef := fun j => by
            rw [getD_toList]
            simp only [Array.getD_eq_getD_getElem?]
            rw [Array.getElem?_extract]
            simp only [Nat.min_self]
            by_cases hj : j < us.size - 1
            · rw [if_pos hj, Nat.add_comm]
            · rw [if_neg hj, Array.getElem?_eq_none (by omega)]
          have hdx' : DRs X xs (fun j => (us.extract 1 us.size).toList.getD j undef) := by
            simp only [hval]
            exact hdx
          obtain ⟨hE1, hts⟩ := zip_env ps xs (us.extract 1 us.size).toList E rec.tmps hpl.symm hvl g10 (env_of_all g11) hdx'
          refine ⟨(X.L r).block, rec.fn, _, rec.assign, rec.body, ?_, run_yield g1 ?_, roundIn_of_wpIn trivial ?_⟩
          · rw [Array.getD_eq_getD_getElem?, Array.getElem?_eq_getElem husz] at hy1
            rw [Array.getElem?_eq_getElem husz]
            simpa using hy1
          · rw [← Array.length_toList, hvl, ← g4, Array.length_toList]
          have htm : (rec.params.zip (us.extract 1 us.size)).foldl (fun tmps (t, a) => tmps.setIfInBounds t a) rec.tmps = (ps.zip (us.extract 1 us.size).toList).foldl (fun tmps (t, a) => tmps.setIfInBounds t a) rec.tmps := by
            rw [← Array.foldl_toList, Array.toList_zip, g4]
          rw [htm, g5, g6]
          have h0 : ∀ q, σ.length ≤ q → X.τ q = none := fun q hq => by rw [hτ q]; exact List.getElem?_eq_none hq
          refine sem1 n (some (X.L r).block) g7 (.inr hna) X X { tmps := (ps.zip (us.extract 1 us.size).toList).foldl (fun tmps (t, a) => tmps.setIfInBounds t a) rec.tmps, defers := [] } _ h0 (Ext.refl X) hX hτ hE1 (by rw [hts]; exact g9) (Mk.nil rfl) fun X2 a2 k1 k2 k3 k4 k5 k6 => ?_
          have hr2 : X2.τ r = some (.lp false hk2 ps2 as2 b2 E3) := by rw [k3, hσ2]
          have hLeq : X2.L r = X.L r := by
            obtain ⟨row', j1, j2⟩ := k1.refs r _ hr0
            generalize hl : X.L r = l1 at j2
            generalize hl' : X2.L r = l2 at j2
            cases j2 with
            | lp _ _ _ _ _ _ _ _ l => rfl
          obtain ⟨rec2, n2, q1, q2, _⟩ := k2.rows r _ hr2
          obtain ⟨qst, qpe⟩ := q2 rfl
          obtain ⟨t1, t2⟩ := lp_turn k2 hr2 q1 (rec' := { rec2 with state := .busy }) rfl rfl rfl rfl true (fun h => by cases h)
          have q1' := q1
          rw [hLeq] at q1'
          refine ⟨_, run_beginRound q1' qst, ?_⟩
          have hturn : X2.w.putObj (X.L r).block (.loop { rec2 with state := .busy }) = (X2.turn (X2.w.putObj (X2.L r).block (.loop { rec2 with state := .busy })) r (.lp true hk2 ps2 as2 b2 E3)).w := by rw [hLeq]; rfl
          rw [hturn]
          refine sem2 n (some (X.L r).block) g8 (.inr hnb) X (X2.turn (X2.w.putObj (X2.L r).block (.loop { rec2 with state := .busy })) r (.lp true hk2 ps2 as2 b2 E3)) a2 _ h0 (k1.trans t1) t2 (fun q => ?_) (fun t => (k4 t).ext k2 t1) (by rw [k5, hts]; exact g9) (k6.ext t1 rfl) fun X4 a4 p1 p2 p3 p4 p5 p6 => ?_
          · show upd1 X2.τ r _ q = _
            by_cases e : q = r
            · subst e
              rw [upd1_same, List.getElem?_set_self (List.getElem?_eq_some_iff.1 hσ2).1]
            · rw [upd1_ne _ _ e, List.getElem?_set_ne (Ne.symm e), k3 q]
          · have hr4 : X4.τ r = some (.lp true hk4 ps4 as4 b4 E5) := by rw [p3, hσ3]
            have hL4 : X4.L r = X.L r := by
              obtain ⟨row', j1, j2⟩ := p1.refs r _ hr0
              generalize hl : X.L r = l1 at j2
              generalize hl' : X4.L r = l2 at j2
              cases j2 with
              | lp _ _ _ _ _ _ _ _ l => rfl
            obtain ⟨rec4, n4, r1, r2, _⟩ := p2.rows r _ hr4
            obtain ⟨u1, u2⟩ := lp_turn p2 hr4 r1 (rec' := { rec4 with state := .ready, pending := none }) rfl rfl rfl rfl false (fun _ => ⟨rfl, rfl⟩)
            have r1' := r1
            rw [hL4] at r1'
            refine ⟨_, _, run_endRound none r1', ?_⟩
            have hturn4 : X4.w.putObj (X.L r).block (.loop { rec4 with state := if (none : Option Code).isNone then .ready else .done, pending := none }) = (X4.turn (X4.w.putObj (X4.L r).block (.loop { rec4 with state := .ready, pending := none })) r (.lp false hk4 ps4 as4 b4 E5)).w := by rw [hL4]; rfl
            rw [hturn4]
            -- the rows that are left
            simp only [finish, settlesB, cond_false, settles, settle, Option.bind_some, Option.bind_eq_some_iff, Option.some.injEq, Prod.mk.injEq] at h4
            obtain ⟨live, v3, rows, v4, v5, v6⟩ := h4
            obtain ⟨hnd, _, htodo, hclo⟩ := reach_ok 1000 _ _ _ v3 List.nodup_nil (by simp)
            have hpre : ∃ more, live = List.range σ.length ++ more := by
              rw [List.range_eq_range'] at v3
              exact reach_range σ.length 0 1000 _ live (by omega) (by simpa using v3)
            let X5 := X4.turn (X4.w.putObj (X4.L r).block (.loop { rec4 with state := .ready, pending := none })) r (.lp false hk4 ps4 as4 b4 E5)
            have hτ5 : ∀ q, X5.τ q = (σ3.set r (.lp false hk4 ps4 as4 b4 E5))[q]? := fun q => by
              show upd1 X4.τ r _ q = _
              by_cases e : q = r
              · subst e
                rw [upd1_same, List.getElem?_set_self (List.getElem?_eq_some_iff.1 hσ3).1]
              · rw [upd1_ne _ _ e, List.getElem?_set_ne (Ne.symm e), p3 q]
            have hcl : ∀ q ∈ live, ∃ row, X5.τ q = some row ∧ ∀ p ∈ refsRow row, p ∈ live := fun q hq => by
              obtain ⟨row, f1, f2⟩ := hclo q hq
              exact ⟨row, by rw [hτ5 q]; exact f1, f2⟩
            refine ⟨.bool true, rfl, X5.sel live [], rfl, sel_ext0 (k0 := σ.length) h0 (p1.trans u1) hpre, sel_sto u2 hnd hcl (by simp), fun q => ?_, ?_⟩
            · rw [← v6]
              exact sel_tau (fun q _ => hτ5 q) v4 q
            · rw [← v5]
              simp only [renDs, renD, DR]
              exact .bool true
        · cases h3
      · cases h1
    · cases h
  · cases h

/-- What is known of a summary that hands on. -/
def SumFOk (P : Program) (f : FuncId) (s : SumF) : Prop :=
  ∀ (args : List D) (σ : Sto) (R : Type) (K : D → Sto → Option R) (r : R), s args σ K = some r → ∃ d σ', K d σ' = some r ∧ CallSem P f args σ d σ'

theorem ev_ok {M : Mode} {sums : FuncId → Option SumF} (hm : M.P.follows .mixedOrders = true) (hok : ∀ (f : FuncId) (fn : Func) (body : Code), M.P.funcs[f]? = some fn → fn.body = some body → sums f = none → fnOk fn body = true)
    (hs : ∀ f s, sums f = some s → SumFOk M.P f s) : ∀ n, CallerKOk M.P (ev M sums n)
  | 0 => fun f args σ R K r h => by simp [ev] at h
  | n + 1 => fun f args σ R K r h => by
    have hlp : LooperOk (fun _ k body => loopN k body n) := fun _ k body E σ o h => loopN_ok k body n E σ o h
    simp only [ev] at h
    by_cases hf : f = yid
    · subst hf
      simp only [beq_self_eq_true, cond_true] at h
      obtain ⟨d, σ', h2, h1⟩ := evYl_ok (ev_ok hm hok hs n) hm hlp h
      refine ⟨d, σ', h2, fun h => absurd rfl h, fun X us h1' h2 h3 h4 => ?_⟩
      unfold RunG
      rw [if_pos rfl]
      exact h1 X us h1' h2 h3 h4
    · have hfb : (f == yid) = false := by simpa using hf
      simp only [hfb, cond_false] at h
      split at h
      · rename_i s hsf
        exact hs f s hsf _ _ _ _ _ h
      · rename_i hsf
        obtain ⟨d, σ', k0, k1, k2⟩ := evBodyK_ok (ev_ok hm hok hs n) hm hlp (fun fn body h1 h2 => hok f fn body h1 h2 hsf) h
        refine ⟨d, σ', k0, fun _ => k1, fun X us h1 h2 h3 h4 => ?_⟩
        unfold RunG
        rw [if_neg hf]
        exact k2 X us h1 h2 h3 h4

end Go.Ab
