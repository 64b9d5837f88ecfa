/- Triples over the evaluator's states: for what the state alone does not fix (a range over a map, a nil test). -/
import Derived.Test.YtbhlffhfmgnleaaGreatDoorWA6
import Derived.Below
set_option linter.all false
namespace Go.Ab
open Go
variable [Globs]

def NSem (P : Program) (n k0 : Nat) (ro : Option Nat) (b : Code) (E : Env) (σ : Sto) (Post : Ex → Env → Sto → Prop) : Prop :=
  ∀ ⦃m0 : Nat⦄ (X0 X : Cx) (a : Act) (Q : Exit → Act → World → Prop), (∀ q, k0 ≤ q → X0.τ q = none) → Ext X0 X → StoR X → (∀ q, X.τ q = σ[q]?) → EnvR X E a → n ≤ a.tmps.size → Mk m0 X0 X a →
    (∀ e E' σ' X' a', Post e E' σ' → Ext X0 X' → StoR X' → (∀ q, X'.τ q = σ'[q]?) → EnvR X' E' a' → a'.tmps.size = a.tmps.size → Mk m0 X0 X' a' → Q e.exit' a' X'.w) → b.wpIn (Fx ro) 0 P Q a X.w

section
variable {P : Program} {n k0 : Nat} {ro : Option Nat}

theorem NSem.of_code {b : Code} {E E' : Env} {σ σ' : Sto} {e : Ex} (h : CodeSem P n k0 ro b E σ e E' σ') : NSem P n k0 ro b E σ (fun x y z => x = e ∧ y = E' ∧ z = σ') :=
  fun m0 X0 X a Q h0 he hX hτ hE hn hmk hQ => h X0 X a Q h0 he hX hτ hE hn hmk fun X' a' g1 g2 g3 g4 g5 g6 => hQ e E' σ' X' a' ⟨rfl, rfl, rfl⟩ g1 g2 g3 g4 g5 g6

theorem NSem.mono {b : Code} {E : Env} {σ : Sto} {Post Post' : Ex → Env → Sto → Prop} (h : NSem P n k0 ro b E σ Post) (hp : ∀ e E' σ', Post e E' σ' → Post' e E' σ') : NSem P n k0 ro b E σ Post' :=
  fun m0 X0 X a Q h0 he hX hτ hE hn hmk hQ => h X0 X a Q h0 he hX hτ hE hn hmk fun e E' σ' X' a' g => hQ e E' σ' X' a' (hp _ _ _ g)

/-- Deterministic code, by the evaluator. -/
theorem NSem.of_ev {M : Mode} {c : CallerK} (hc : CallerKOk M.P c) (hm : M.P.follows .mixedOrders = true) {lp : Looper} (hlp : LooperOk lp) {hk : Nat → Option (List Nat)} {b : Code} (hok : codeOk n b = true) (hro : ro = none ∨ noRange b = true)
    {E : Env} {σ : Sto} {o : Out} (h : evC M c lp hk k0 b E σ (fun e E σ => some (e, E, σ)) = some o) : NSem M.P n k0 ro b E σ (fun x y z => (x, y, z) = o) := by
  obtain ⟨e, E', σ', h1, h2⟩ := evC_ok hc hm hlp b h
  cases h1
  exact (NSem.of_code (h2 n ro hok hro)).mono fun x y z ⟨h3, h4, h5⟩ => by subst h3 h4 h5; rfl

theorem NSem.seq {x y : Code} {E : Env} {σ : Sto} {Mid Post : Ex → Env → Sto → Prop} (hx : NSem P n k0 ro x E σ Mid) (hy : ∀ E' σ', Mid .normal E' σ' → NSem P n k0 ro y E' σ' Post)
    (he : ∀ e E' σ', e ≠ .normal → Mid e E' σ' → Post e E' σ') : NSem P n k0 ro (.seq x y) E σ Post := fun m0 X0 X a Q h0 hex hX hτ hE hn hmk hQ => by
  refine wpIn_seq (hx X0 X a _ h0 hex hX hτ hE hn hmk fun e E' σ' X' a' g0 g1 g2 g3 g4 g5 g6 => ?_)
  cases e with
  | normal => exact hy E' σ' g0 X0 X' a' Q h0 g1 g2 g3 g4 (by rw [g5]; exact hn) g6 fun e E'' σ'' X'' a'' k0 k1 k2 k3 k4 k5 k6 => hQ e E'' σ'' X'' a'' k0 k1 k2 k3 k4 (by rw [k5, g5]) k6
  | exit id => exact hQ _ E' σ' X' a' (he _ _ _ (by simp) g0) g1 g2 g3 g4 g5 g6
  | ret => exact hQ _ E' σ' X' a' (he _ _ _ (by simp) g0) g1 g2 g3 g4 g5 g6

theorem NSem.weaken {b : Code} {E E' : Env} {σ : Sto} {Post : Ex → Env → Sto → Prop} (h : NSem P n k0 ro b E' σ Post) (hw : ∀ t, E'.get t = E.get t ∨ E'.get t = .undef) : NSem P n k0 ro b E σ Post :=
  fun m0 X0 X a Q h0 he hX hτ hE hn hmk hQ => h X0 X a Q h0 he hX hτ (fun t => by
    rcases hw t with e | e
    · rw [e]; exact hE t
    · rw [e]; simp [DR]) hn hmk hQ

theorem NSem.keep {b : Code} {E : Env} {σ : Sto} {Post : Ex → Env → Sto → Prop} (ts : List Nat) (h : NSem P n k0 ro b (E.keep ts) σ Post) : NSem P n k0 ro b E σ Post :=
  h.weaken fun t => get_keep ts E t

/-- Rows that nothing leads to are let go. -/
theorem NSem.head {b : Code} {E E' : Env} {σ σ' : Sto} {Post : Ex → Env → Sto → Prop} (hh : head k0 E σ = some (E', σ')) (h : NSem P n k0 ro b E' σ' Post) : NSem P n k0 ro b E σ Post :=
  fun m0 X0 X a Q h0 he hX hτ hE hn hmk hQ => by
    obtain ⟨X', e1, e2, e3, e4, e5, e6⟩ := head_ok hh h0 he hX hτ hE
    rw [← e1]
    exact h X0 X' a Q h0 e2 e3 e4 e5 hn (hmk.head e1 e6) hQ

theorem NSem.cond {x : Operand} {p q : Code} {E : Env} {σ : Sto} {Post : Ex → Env → Sto → Prop} {t : Bool} (hx : operand E x = some (.v (.bool t))) (h : NSem P n k0 ro (if t then p else q) E σ Post) : NSem P n k0 ro (.cond x p q) E σ Post :=
  fun m0 X0 X a Q h0 he hX hτ hE hn hmk hQ => by
    have hx : DR X (.v (.bool t)) (a.eval x) := (OpdR.of_get hX fun t _ => hE t) _ hx
    simp only [DR] at hx
    generalize hu : a.eval x = u at hx
    cases hx
    exact wpIn_cond hu (h X0 X a Q h0 he hX hτ hE hn hmk hQ)

theorem NSem.loop {b : Code} {Post : Ex → Env → Sto → Prop} (Inv : Nat → Env → Sto → Prop)
    (hb : ∀ m E σ, Inv m E σ → NSem P n k0 ro b E σ (fun e E' σ' => (e = .normal ∧ ∃ m', m' < m ∧ Inv m' E' σ') ∨ (e ≠ .normal ∧ Post e E' σ'))) {m : Nat} {E : Env} {σ : Sto} (h : Inv m E σ) : NSem P n k0 ro (.loop b) E σ Post := by
  suffices hh : ∀ (m : Nat) (E : Env) (σ : Sto), Inv m E σ → ∀ ⦃m0 : Nat⦄ (X0 X : Cx) (a : Act) (Q : Exit → Act → World → Prop), (∀ q, k0 ≤ q → X0.τ q = none) → Ext X0 X → StoR X → (∀ q, X.τ q = σ[q]?) → EnvR X E a → n ≤ a.tmps.size → Mk m0 X0 X a →
      (∀ e E' σ' X' a', Post e E' σ' → Ext X0 X' → StoR X' → (∀ q, X'.τ q = σ'[q]?) → EnvR X' E' a' → a'.tmps.size = a.tmps.size → Mk m0 X0 X' a' → Q e.exit' a' X'.w) → LoopWp ro P b Q a X.w from
    fun m0 X0 X a Q h0 he hX hτ hE hn hmk hQ => wp_loop_of (hh m E σ h X0 X a Q h0 he hX hτ hE hn hmk hQ)
  intro m
  induction m using Nat.strongRecOn with
  | ind m ih =>
    intro E σ hi m0 X0 X a Q h0 he hX hτ hE hn hmk hQ
    refine loopWp_step (hb m E σ hi X0 X a _ h0 he hX hτ hE hn hmk fun e E' σ' X' a' g0 g1 g2 g3 g4 g5 g6 => ?_)
    rcases g0 with ⟨rfl, m', hm, hi'⟩ | ⟨hne, hp⟩
    · exact ih m' hm E' σ' hi' X0 X' a' Q h0 g1 g2 g3 g4 (by rw [g5]; exact hn) g6 fun e E'' σ'' X'' a'' k0 k1 k2 k3 k4 k5 k6 => hQ e E'' σ'' X'' a'' k0 k1 k2 k3 k4 (by rw [k5, g5]) k6
    · have hq := hQ e E' σ' X' a' hp g1 g2 g3 g4 g5 g6
      cases e with
      | normal => exact absurd rfl hne
      | exit id => exact hq
      | ret => exact hq

theorem NSem.block {id : Nat} {b : Code} {E : Env} {σ : Sto} {Mid Post : Ex → Env → Sto → Prop} (h : NSem P n k0 ro b E σ Mid)
    (hp : ∀ e E' σ', Mid e E' σ' → Post (if e = .exit id then .normal else e) E' σ') : NSem P n k0 ro (.block id b) E σ Post := fun m0 X0 X a Q h0 he hX hτ hE hn hmk hQ => by
  refine wpIn_block (h X0 X a _ h0 he hX hτ hE hn hmk fun e E' σ' X' a' g0 g1 g2 g3 g4 g5 g6 => ?_)
  have hq := hQ _ E' σ' X' a' (hp _ _ _ g0) g1 g2 g3 g4 g5 g6
  cases e with
  | normal =>
    rw [if_neg (by simp)] at hq
    exact hq
  | ret =>
    rw [if_neg (by simp)] at hq
    exact hq
  | exit i =>
    by_cases hi : i = id
    · subst hi
      rw [if_pos rfl] at hq
      simp only [Ex.exit', Exit.inBlock, if_true]
      exact hq
    · rw [if_neg (by simpa using hi)] at hq
      simp only [Ex.exit', Exit.inBlock, if_neg hi]
      exact hq

/-- One operation, whatever comes of it. -/
def OpN (P : Program) (o : Oper) (E : Env) (σ : Sto) (Post : D → Sto → Prop) : Prop :=
  ∀ (X : Cx) (a : Act), StoR X → (∀ q, X.τ q = σ[q]?) → EnvR X E a → Sim P o X a (fun X' u => ∃ d σ', Post d σ' ∧ DR X' d u ∧ ∀ q, X'.τ q = σ'[q]?)

theorem OpN.mono {o : Oper} {E : Env} {σ : Sto} {Post Post' : D → Sto → Prop} (h : OpN P o E σ Post) (hp : ∀ d σ', Post d σ' → Post' d σ') : OpN P o E σ Post' :=
  fun X a hX hτ hE => (h X a hX hτ hE).mono fun X' u ⟨d, σ', h1, h2, h3⟩ => ⟨d, σ', hp d σ' h1, h2, h3⟩

theorem OpN.of_ev {M : Mode} {c : CallerK} (hc : CallerKOk M.P c) {o : Oper} {E : Env} {σ : Sto} {r : D × Sto} (h : evOp M c o E σ (fun d σ' _ => some (d, σ')) = some r) : OpN M.P o E σ (fun d σ' => (d, σ') = r) := by
  obtain ⟨d, σ', f, h1, h2⟩ := evOp_ok hc h
  cases h1
  intro X a hX hτ hE
  refine (h2.sim X a hX (fun x _ => OpdR.of_get hX fun t _ => hE t) (fun p _ => hτ p.1) (fun q hq _ => by rw [hτ q]; exact List.getElem?_eq_none hq)).mono fun X' u hp => ⟨d, σ', rfl, hp.1, fun q => ?_⟩
  rw [hp.2]
  show (if (q, true) ∈ f ∨ (σ.length ≤ q ∧ q < σ'.length) then σ'[q]? else X.τ q) = σ'[q]?
  split
  · rfl
  · rename_i hno
    rw [not_or] at hno
    rw [hτ q]
    rcases Nat.lt_or_ge q σ.length with hl | hl
    · exact (h2.keep q hno.1 hl).symm
    · rw [List.getElem?_eq_none hl, List.getElem?_eq_none]
      rcases Nat.lt_or_ge q σ'.length with h' | h'
      · exact absurd ⟨hl, h'⟩ hno.2
      · exact h'

/-- Operations one behind the other. -/
def NOps (P : Program) (n : Nat) : List Oper → Env → Sto → (Env → Sto → Prop) → Prop
  | [], E, σ, Post => Post E σ
  | o :: os, E, σ, Post => o.guard = none ∧ (∀ d, o.dst = some d → d < n) ∧ OpN P o E σ (fun d σ' => NOps P n os (E.put o.dst d) σ' Post)

theorem nops_ok {ops : Array Oper} {Q : Exit → Act → World → Prop} {Post : Env → Sto → Prop} : ∀ (l : List Oper) (i : Nat), (∀ j o, l[j]? = some o → ops[i + j]? = some o) → ∀ (E : Env) (σ : Sto), NOps P n l E σ Post →
    ∀ (X : Cx) (a : Act), StoR X → (∀ q, X.τ q = σ[q]?) → EnvR X E a → n ≤ a.tmps.size → (∀ E' σ', Post E' σ' → RegionPost X a E' σ' Q) → wpOpsIn (Fx ro) 0 P ops Q (List.range' i l.length) a X.w
  | [], i, _, E, σ, h, X, a, hX, hτ, hE, _, hQ => by
    simp only [List.length_nil, List.range'_zero, wpOpsIn]
    exact hQ E σ h X a (Ext.refl X) hX hτ hE rfl rfl
  | o :: l, i, hl, E, σ, ⟨hg, hd, hs⟩, X, a, hX, hτ, hE, hn, hQ => by
    rw [List.length_cons, List.range'_succ, wpOpsIn_cons]
    have hi : ops[i]? = some o := by simpa using hl 0 o rfl
    simp only [wpOpIn, hi]
    have hw : Region.wanted o (yielded ops a.tmps) = true := by unfold Region.wanted; rw [hg]
    rw [if_pos hw]
    refine hs X a hX hτ hE ro _ _ fun X' u he hs' hp => ?_
    obtain ⟨d, σ', h1, h2, h3⟩ := hp
    refine nops_ok l (i + 1) (fun j o' hj => by have := hl (j + 1) o' (by simpa using hj); rwa [show i + 1 + j = i + (j + 1) by omega]) _ _ h1 X' _ hs' h3 (fun t => ?_) (by rw [put_size]; exact hn)
      fun E' σ'' hpost X'' a'' k1 k2 k3 k4 k5 k6 => hQ E' σ'' hpost X'' a'' (he.trans k1) k2 k3 k4 (by rw [k5, put_size]) (by rw [k6, put_defers])
    rw [get_put]
    by_cases e : o.dst = some t
    · rw [if_pos e, e, eval_put_self (Nat.lt_of_lt_of_le (hd t e) hn)]
      exact h2
    · rw [if_neg e, eval_put_ne e]
      exact (hE t).ext hX he

theorem NSem.region {id : Nat} {ops : Array Oper} {E : Env} {σ : Sto} {Post : Env → Sto → Prop} (h : NOps P n ops.toList E σ Post) : NSem P n k0 ro (.region id ops false) E σ (fun e E' σ' => e = .normal ∧ Post E' σ') :=
  fun m0 X0 X a Q h0 he hX hτ hE hn hmk hQ => wpIn_region (by
    rw [List.range_eq_range', ← Array.length_toList]
    exact nops_ok ops.toList 0 (fun j o hj => by simpa using hj) E σ h X a hX hτ hE hn fun E' σ' hp X' a' g1 g2 g3 g4 g5 g6 => hQ .normal E' σ' X' a' ⟨rfl, hp⟩ (he.trans g1) g2 g3 g4 g5 (hmk.ext g1 g6))

/-- Is a value a slice, and how long is it? -/
def lenOfSl : D → Option Nat
  | .v .nils => some 0
  | .sl _ _ xs => some xs.length
  | .rs _ _ _ _ len => some len
  | _ => none

theorem lenOfSl_ok {X : Cx} {d : D} {u : Value} (hd : DR X d u) {n : Nat} (h : lenOfSl d = some n) : ∃ a c, u = .slice a n c ∧ (0 < n → ∃ p, a = some p) := by
  unfold lenOfSl at h
  split at h
  · cases h
    simp only [DR] at hd
    cases hd
    exact ⟨_, 0, rfl, fun h => by omega⟩
  · rename_i t m xs
    cases h
    have hs : ∃ c T, SlR X.w T X.S m xs c u := by
      cases t <;> simp only [DR] at hd
      · obtain ⟨c, h⟩ := hd; exact ⟨c, _, h⟩
      · obtain ⟨c, h⟩ := hd; exact ⟨c, _, h⟩
      · exact ⟨_, _, hd⟩
    obtain ⟨c, T, a, b, o, us, h1, h2, _⟩ := hs
    exact ⟨a, c, h1, fun h => ⟨_, h2 h⟩⟩
  · cases h
    simp only [DR] at hd
    obtain ⟨a, c, h1, _, h2, _⟩ := hd
    exact ⟨a, c, h1, fun h => by obtain ⟨b, o, e⟩ := h2 h; exact ⟨_, e⟩⟩
  · cases h

theorem equalIn_nil {T e : TypeId} (hT : P.underlying T = some (.slice e)) (dep : Nat) (a : Option Addr) (k c : Nat) (w : World) : (Op.equalIn (dep + 1) T (.slice a k c) (.slice none 0 0)).run P w = .ok a.isNone w := by
  cases a <;> simp [Op.equalIn, run_under w hT]

theorem equal_nil {T e : TypeId} (hT : P.underlying T = some (.slice e)) (a : Option Addr) (k c : Nat) (w : World) : (Op.equal T (.slice a k c) (.slice none 0 0)).run P w = .ok a.isNone w :=
  equalIn_nil hT 9999 a k c w

/-- 'x == nil' of a slice: yes only if it is empty. -/
theorem OpN.isNil {o : Oper} {T : TypeId} {e : TypeId} {x : Operand} {ty : TypeId} (ho : o.op = .binOp .eql T x (.const (.slice none 0 0)) ty) (hT : P.underlying T = some (.slice e)) {E : Env} {σ : Sto} {dx : D} (hx : operand E x = some dx) {len : Nat} (hl : lenOfSl dx = some len) :
    OpN P o E σ (fun d σ' => σ' = σ ∧ ∃ b, d = .v (.bool b) ∧ (b = true → len = 0)) := by
  intro X a hX hτ hE
  obtain ⟨ad, c, h1, h2⟩ := lenOfSl_ok ((OpdR.of_get hX fun t _ => hE t) dx hx) hl
  have hc : a.eval (.const (.slice none 0 0)) = .slice none 0 0 := rfl
  have heq := equal_nil hT ad len c X.w
  cases ad with
  | none =>
    refine Sim.value (X' := X) (u := .bool true) ?_ (Ext.refl X) hX ⟨.v (.bool true), σ, ⟨rfl, true, rfl, fun _ => ?_⟩, by simp only [DR]; exact .bool true, hτ⟩
    · simp [execOp, ho, h1, hc, eqGuard, binOp, heq]
    · rcases Nat.eq_zero_or_pos len with h | h
      · exact h
      · obtain ⟨p, hp⟩ := h2 h
        cases hp
  | some p =>
    refine Sim.value (X' := X) (u := .bool false) ?_ (Ext.refl X) hX ⟨.v (.bool false), σ, ⟨rfl, false, rfl, fun h => by cases h⟩, by simp only [DR]; exact .bool false, hτ⟩
    simp [execOp, ho, h1, hc, eqGuard, binOp, heq]

/-- A body whose outcome the state alone does not fix: R holds of each. -/
theorem nbody_ok {f : FuncId} {fn : Func} {body : Code} (hfn : P.funcs[f]? = some fn) (hb : fn.body = some body) (hne : (fn.name == "runtime.NumGoroutine") = false) {args : List D} {σ : Sto} {R : D → Sto → Prop}
    (h : NSem P fn.ntmps σ.length none body (params 0 args) σ (fun e E' σ1 => ∃ d σ', noExit e ((resultsOf P E' σ1 fn.results.toList).bind fun res => finish false σ.length res σ1) = some (d, σ') ∧ R d σ')) :
    Enters P f ∧ ∀ (X : Cx) (us : Array Value), StoR X → (∀ q, X.τ q = σ[q]?) → us.size = args.length → DRs X args (fun j => us.getD j undef) →
      Calls P f us X.w fun e w' => ∃ v, e = .returned v ∧ ∃ d σ', R d σ' ∧ ∃ X', X'.w = w' ∧ Ext X X' ∧ StoR X' ∧ (∀ q, X'.τ q = σ'[q]?) ∧ DR X' d v := by
  refine ⟨⟨fn, hfn, hne, by rw [hb]; rfl⟩, fun X us hX hτ hsz hd => ?_⟩
  refine callsIn_wide.1 (callsIn_of_wp_marks (F := Fx none) (n := 0) hfn hb trivial ?_)
  have h0 : ∀ q, σ.length ≤ q → X.τ q = none := fun q hq => by rw [hτ q]; exact List.getElem?_eq_none hq
  refine h X X { tmps := us ++ Array.replicate (fn.ntmps - us.size) undef, defers := [] } _ h0 (Ext.refl X) hX hτ (params_env hsz hd) (by simp; omega) (Mk.nil rfl) fun e E' σ1 X1 a1 g0 g1 g2 g3 g4 g5 g6 => ?_
  obtain ⟨d, σ', h1, hR⟩ := g0
  have hfin : (∃ i, e = .exit i) ∨ ((resultsOf P E' σ1 fn.results.toList).bind fun res => finish false σ.length res σ1) = some (d, σ') := by
    cases e with
    | exit i => exact .inl ⟨i, rfl⟩
    | normal => exact .inr (by rw [← h1]; rfl)
    | ret => exact .inr (by rw [← h1]; rfl)
  rcases hfin with ⟨i, rfl⟩ | hfin
  · cases h1
  · obtain ⟨_, ms, m1, m2, m3⟩ := g6
    have post : LeavesInM (Fx none) 0 P fn a1.tmps (fun e w' => ∃ v, e = .returned v ∧ ∃ d σ', R d σ' ∧ ∃ X', X'.w = w' ∧ Ext X X' ∧ StoR X' ∧ (∀ q, X'.τ q = σ'[q]?) ∧ DR X' d v) a1.defers .returning X1.w := by
      rw [m1]
      exact leave_ok h0 hfin (fun v X' k1 k2 k3 k4 => ⟨v, rfl, d, σ', hR, X', rfl, k1, k2, k3, k4⟩) ms X1 m2 m3 g1 g2 g3 (fun t => g4 t)
    cases e with
    | exit i => cases h1
    | normal => exact post
    | ret => exact post

end
end Go.Ab

/- slices.Clone, at elements of any type. -/
namespace Go.Ab
open Go
variable [Globs]

def m0 (P : Program) : Mode := { P, byRef := fun _ => false, hints := fun _ _ => none, frc := false }
def c0 : CallerK := fun _ _ _ _ _ => none
theorem c0_ok (P : Program) : CallerKOk P c0 := fun f args σ R K r h => by cases h

/-- What slices.Clone gives; n cells an element, b bytes. -/
def cloneS (n b : Nat) (args : List D) (σ : Sto) : Option (D × Sto) :=
  match args, σ with
  | [.v .nils], [] => some (.sl .full n [], [])
  | [.sl _ m xs], [] => bif m == n && room b xs.length then
      match xs with
      | [] => some (.sl .full n [], [])
      | _ :: _ => some (.rs 0 0 n 0 xs.length, [.arr n 0 xs])
    else none
  | _, _ => none

/-- An operation's three facts. -/
def Is (o : Oper) (op : Op) (dst : Option Tmp) : Prop := o.op = op ∧ o.dst = dst ∧ o.guard = none

section
variable {P : Program} {n : Nat}

theorem nops_cons {o : Oper} {os : List Oper} {op : Op} {t : Tmp} (ho : Is o op (some t)) (ht : t < n) {E : Env} {σ σ' : Sto} {d : D} {Post : Env → Sto → Prop} (h : evOp (m0 P) c0 o E σ (fun d σ' _ => some (d, σ')) = some (d, σ'))
    (hp : NOps P n os ((t, d) :: E) σ' Post) : NOps P n (o :: os) E σ Post := by
  obtain ⟨h1, h2, h3⟩ := ho
  refine ⟨h3, fun d' hd => ?_, (OpN.of_ev (M := m0 P) (c0_ok P) h).mono fun d' σ'' he => ?_⟩
  · rw [h2] at hd
    cases hd
    exact ht
  · cases he
    rw [h2]
    exact hp

theorem clone_ok {f : FuncId} {fn : Func} (hfn : P.funcs[f]? = some fn) (hne : (fn.name == "runtime.NumGoroutine") = false) (hres : fn.results.toList = [.tmp 2]) (hnt : 8 ≤ fn.ntmps) {i0 i1 i2 i3 : Nat} {q0 q1 q2 q3 q4 q5 q6 q7 : Oper}
    (hb : fn.body = some (.seq (.region i0 #[q0] false) (.seq (.seq (.region i1 #[q1, q2] false) (.cond (.tmp 4) (.seq (.region i2 #[q3] false) .ret) .skip)) (.seq (.region i3 #[q4, q5, q6, q7] false) .ret))))
    {T e ty : TypeId} {m b : Nat} {z : List V} (hT : P.underlying T = some (.slice e)) (hm : size? P e = some m) (hby : bytes? P e = some b) (hz : zero? P e = some z) (hzl : z.length = m) (hpos : 0 < m) {k : Call}
    (h0 : Is q0 (.assign (.const (.slice none 0 0))) (some 2)) (h1 : Is q1 (.move (.tmp 0)) (some 3)) (h2 : Is q2 (.binOp .eql T (.tmp 3) (.const (.slice none 0 0)) ty) (some 4)) (h3 : Is q3 (.assign (.const (.slice none 0 0))) (some 2))
    (h4 : Is q4 (.buildSlice T 0 #[]) (some 5)) (h5 : Is q5 (.move (.tmp 0)) (some 6)) (h6 : Is q6 (.call k) (some 7)) (hk : k = { callee := .builtin .append, args := #[.tmp 5, .tmp 6], argTypes := #[T, T] }) (h7 : Is q7 (.assign (.tmp 7)) (some 2))
    {args : List D} {σ σ' : Sto} {d : D} (h : cloneS m b args σ = some (d, σ')) :
    Enters P f ∧ ∀ (X : Cx) (us : Array Value), StoR X → (∀ q, X.τ q = σ[q]?) → us.size = args.length → DRs X args (fun j => us.getD j undef) →
      Calls P f us X.w fun e w' => ∃ v, e = .returned v ∧ ∃ X', X'.w = w' ∧ Ext X X' ∧ StoR X' ∧ (∀ q, X'.τ q = σ'[q]?) ∧ DR X' d v := by
  -- the argument
  have hx : ∃ x xs, args = [x] ∧ σ = [] ∧ lenOfSl x = some xs.length ∧ elemsW m [] x = some (xs, []) ∧ room b xs.length = true ∧
      (d, σ') = (match xs with | [] => (.sl .full m [], []) | _ :: _ => (.rs 0 0 m 0 xs.length, [.arr m 0 xs])) := by
    unfold cloneS at h
    split at h
    · cases h
      refine ⟨.v .nils, [], rfl, rfl, rfl, rfl, by simp [room], rfl⟩
    · rename_i t m' xs
      obtain ⟨hc, h⟩ := bif_some h
      simp only [Bool.and_eq_true, beq_iff_eq] at hc
      obtain ⟨rfl, hr⟩ := hc
      refine ⟨_, xs, rfl, rfl, rfl, by simp [elemsW, elems], hr, ?_⟩
      split at h <;> (cases h; rfl)
    · cases h
  obtain ⟨x, xs, rfl, rfl, hlen, helem, hroom, hout⟩ := hx
  have hbs : bs m 0 z [] = some (.sl .full m []) := by
    simp [bs, hpos, hzl, fillParts, pureCells, chunk]
  have happ : ap m b (.sl .full m []) x [] = some (match xs with | [] => (.sl .full m [], []) | _ :: _ => (.rs 0 0 m 0 xs.length, [.arr m 0 xs])) := by
    simp only [ap, helem, Option.bind_some, appendTo, beq_self_eq_true, Bool.true_and, hpos, decide_true, List.length_nil, Nat.zero_add, hroom, cond_true, List.nil_append]
    cases xs <;> rfl
  let R : D → Sto → Prop := fun d' s => match xs with | [] => (d' = .v .nils ∨ d' = .sl .full m []) ∧ s = [] | _ :: _ => d' = .rs 0 0 m 0 xs.length ∧ s = [.arr m 0 xs]
  have hlt : ∀ {t : Nat}, t < 8 → t < fn.ntmps := fun h => Nat.lt_of_lt_of_le h hnt
  have body : NSem P fn.ntmps ([] : Sto).length none (.seq (.region i0 #[q0] false) (.seq (.seq (.region i1 #[q1, q2] false) (.cond (.tmp 4) (.seq (.region i2 #[q3] false) .ret) .skip)) (.seq (.region i3 #[q4, q5, q6, q7] false) .ret))) (params 0 [x]) [] (fun e E' σ1 => ∃ d σ', noExit e ((resultsOf P E' σ1 fn.results.toList).bind fun res => finish false ([] : Sto).length res σ1) = some (d, σ') ∧ R d σ') := by
    refine NSem.seq (NSem.region (Post := fun E' σ1 => E' = (2, .v .nils) :: [(0, x)] ∧ σ1 = []) ?_) ?_ ?_
    · refine nops_cons h0 (hlt (by omega)) (d := .v .nils) (σ' := []) (by simp [evOp, h0.1, operand, ofValue, ofCell]) ?_
      exact ⟨rfl, rfl⟩
    · rintro E' σ1 ⟨_, rfl, rfl⟩
      refine NSem.seq (Mid := fun e E' σ1 => σ1 = [] ∧ E'.get 0 = x ∧ ((e = .ret ∧ E'.get 2 = .v .nils ∧ xs = []) ∨ e = .normal)) ?_ ?_ ?_
      · refine NSem.seq (NSem.region (Post := fun E' σ1 => σ1 = [] ∧ ∃ bb, E' = (4, .v (.bool bb)) :: (3, x) :: (2, .v .nils) :: [(0, x)] ∧ (bb = true → xs = [])) ?_) ?_ ?_
        · refine nops_cons h1 (hlt (by omega)) (d := x) (σ' := []) (by simp [evOp, h1.1, operand, Env.get]) ?_
          refine ⟨h2.2.2, fun d hd => by rw [h2.2.1] at hd; cases hd; exact hlt (by omega), (OpN.isNil h2.1 hT (dx := x) (by simp [operand, Env.get]) hlen).mono fun d' s hp => ?_⟩
          obtain ⟨rfl, bb, rfl, hbb⟩ := hp
          rw [h2.2.1]
          exact ⟨rfl, bb, rfl, fun hh => List.eq_nil_of_length_eq_zero (hbb hh)⟩
        · rintro E' σ1 ⟨_, rfl, bb, rfl, hbb⟩
          refine NSem.cond (t := bb) (by simp [operand, Env.get]) ?_
          cases bb with
          | true =>
            simp only [if_true]
            refine NSem.seq (NSem.region (Post := fun E' σ1 => E' = (2, .v .nils) :: (4, .v (.bool true)) :: (3, x) :: (2, .v .nils) :: [(0, x)] ∧ σ1 = []) ?_) ?_ ?_
            · refine nops_cons h3 (hlt (by omega)) (d := .v .nils) (σ' := []) (by simp [evOp, h3.1, operand, ofValue, ofCell]) ?_
              exact ⟨rfl, rfl⟩
            · rintro E' σ1 ⟨_, rfl, rfl⟩
              exact fun m0 X0 X a Q h0 he hX hτ hE hn hmk hQ => wpIn_ret (hQ .ret _ _ X a ⟨rfl, by simp [Env.get], .inl ⟨rfl, by simp [Env.get], hbb rfl⟩⟩ he hX hτ hE rfl hmk)
            · rintro e E' σ1 hne ⟨he, _⟩
              exact absurd he hne
          | false =>
            simp only [Bool.false_eq_true, if_false]
            exact fun m0 X0 X a Q h0 he hX hτ hE hn hmk hQ => wpIn_skip (hQ .normal _ _ X a ⟨rfl, by simp [Env.get], .inr rfl⟩ he hX hτ hE rfl hmk)
        · rintro e E' σ1 hne ⟨he, _⟩
          exact absurd he hne
      · rintro E' σ1 ⟨rfl, hE0, hh⟩
        refine NSem.seq (NSem.region (Post := fun E'' σ1 => E''.get 2 = (match xs with | [] => .sl .full m [] | _ :: _ => .rs 0 0 m 0 xs.length) ∧ σ1 = (match xs with | [] => [] | _ :: _ => [.arr m 0 xs])) ?_) ?_ ?_
        · refine nops_cons h4 (hlt (by omega)) (d := .sl .full m []) (σ' := []) (by simp [evOp, h4.1, parts, elem?, m0, hT, hm, hz, hbs]) ?_
          refine nops_cons h5 (hlt (by omega)) (d := x) (σ' := []) (by simp [evOp, h5.1, operand, Env.get, hE0]) ?_
          refine nops_cons h6 (hlt (by omega)) (d := match xs with | [] => .sl .full m [] | _ :: _ => .rs 0 0 m 0 xs.length) (σ' := match xs with | [] => [] | _ :: _ => [.arr m 0 xs]) ?_ ?_
          · have hopd : operands ((6, x) :: (5, .sl .full m []) :: E') [.tmp 5, .tmp 6] = some [.sl .full m [], x] := by simp [operands, operand, Env.get]
            simp only [evOp, h6.1, hk, hopd, Option.bind_some, evBuiltin, elem?, m0, hT, hm, hby, hz, hzl, beq_self_eq_true, Bool.not_true, cond_false, apK_eq, happ]
            cases xs <;> rfl
          · refine nops_cons h7 (hlt (by omega)) (d := match xs with | [] => .sl .full m [] | _ :: _ => .rs 0 0 m 0 xs.length) (σ' := match xs with | [] => [] | _ :: _ => [.arr m 0 xs]) (by simp [evOp, h7.1, operand, Env.get]) ?_
            exact ⟨by simp [Env.get], rfl⟩
        · rintro E'' σ1 ⟨_, hE2, rfl⟩
          refine fun m0 X0 X a Q h0 he hX hτ hE hn hmk hQ => wpIn_ret (hQ .ret _ _ X a ?_ he hX hτ hE rfl hmk)
          rw [hres]
          cases xs with
          | nil =>
            simp only at hE2
            refine ⟨.sl .full m [], [], ?_, .inr rfl, rfl⟩
            simp [noExit, resultsOf, hE2, finish, settlesB, settles, settle, refsDs, refsD, reach, rowsAt, renDs, renD]
          | cons y ys =>
            simp only at hE2
            refine ⟨.rs 0 0 m 0 (y :: ys).length, [.arr m 0 (y :: ys)], ?_, rfl, rfl⟩
            simp [noExit, resultsOf, hE2, finish, settlesB, settles, settle, refsDs, refsD, reach, refsRow, rowsAt, renDs, renD, renRow, idxOf]
        · rintro e E'' σ1 hne ⟨he, _⟩
          exact absurd he hne
      · rintro e E' σ1 hne ⟨rfl, _, hh⟩
        rcases hh with ⟨rfl, hE2, hxs⟩ | hh
        · rw [hres]
          subst hxs
          refine ⟨.v .nils, [], ?_, .inl rfl, rfl⟩
          simp [noExit, resultsOf, hE2, finish, settlesB, settles, settle, refsDs, refsD, reach, rowsAt, renDs, renD]
        · exact absurd hh hne
    · rintro e E' σ1 hne ⟨he, _⟩
      exact absurd he hne
  obtain ⟨r1, r2⟩ := nbody_ok hfn hb hne body
  refine ⟨r1, fun X us hX hτ hsz hd => (r2 X us hX hτ hsz hd).mono fun e w' hh => ?_⟩
  obtain ⟨v, rfl, d1, s1, hR, X', g1, g2, g3, g4, g5⟩ := hh
  cases xs with
  | nil =>
    cases hout
    obtain ⟨hd1, rfl⟩ := hR
    refine ⟨v, rfl, X', g1, g2, g3, g4, ?_⟩
    rcases hd1 with rfl | rfl
    · simp only [DR] at g5 ⊢
      exact SlR.of_nils g5
    · exact g5
  | cons y ys =>
    cases hout
    obtain ⟨rfl, rfl⟩ := hR
    exact ⟨v, rfl, X', g1, g2, g3, g4, g5⟩
end
end Go.Ab

/- Loopers. -/
namespace Go.Ab
open Go
variable [Globs]
theorem looper_ok (n : Nat) : LooperOk (fun _ k body => loopN k body n) := fun _ k body E σ o h => loopN_ok k body n E σ o h
end Go.Ab

/- What a function that only makes new memory comes to, for a caller. -/
namespace Go.Ab
open Go Go.RowKit
variable [Globs]

theorem below_ext {X : Cx} {w' : World} (hb : Below X.w.heap.size X.w w') (hd : Globs.counts → X.w.drawn ≤ w'.drawn) : Ext X { X with w := w' } where
  drawn := hd
  os := hb.os
  tape := hb.tape
  output := hb.output
  size := hb.size
  blk := fun b h _ => hb.block b h
  own := fun b h => .inl h
  S := fun _ _ h => h
  T := fun _ _ h => h
  nS := fun _ _ h => .inl h
  nT := fun _ _ h => .inl h
  refs := fun r row h => ⟨row, h, RowStep.refl _ _⟩

theorem below_sto {X : Cx} (hX : StoR X) {w' : World} (hb : Below X.w.heap.size X.w w') (hd : Globs.counts → X.w.drawn ≤ w'.drawn) : StoR { X with w := w' } where
  rows := fun r row hr => (hX.rows r row hr).keep hX (below_ext hb hd) rfl fun ho => hb.block _ (Own.lt hX ⟨r, row, hr, ho, rfl⟩)
  inj := hX.inj
  sep := hX.sep
  sub := hX.sub
  glob := GlobR.ext hX (below_ext hb hd)
  live := fun b p h => by
    obtain ⟨u, hu⟩ := hX.live b p h
    exact ⟨u, (cell_of_blk (hb.block b (lt_of_cell hu)) p).trans hu⟩

/-- A function without rows that hands back a value and makes new memory at most. -/
theorem pure_call {P : Program} {f : FuncId} {us : Array Value} {X : Cx} (hX : StoR X) {σ : Sto} (hτ : ∀ q, X.τ q = σ[q]?) {d : D}
    (h : Calls P f us X.w fun e w' => ∃ v, e = .returned v ∧ Below X.w.heap.size X.w w' ∧ (Globs.counts → X.w.drawn ≤ w'.drawn) ∧ DR { X with w := w' } d v) :
    Calls P f us X.w fun e w' => ∃ v, e = .returned v ∧ ∃ X', X'.w = w' ∧ Ext X X' ∧ StoR X' ∧ (∀ q, X'.τ q = σ[q]?) ∧ DR X' d v :=
  h.mono fun e w' ⟨v, h1, h2, hd, h3⟩ => ⟨v, h1, { X with w := w' }, rfl, below_ext h2 hd, below_sto hX h2 hd, hτ, h3⟩

/-- What is known of one function's summary. -/
def SumOk (P : Program) (f : FuncId) (s : List D → Sto → Option (D × Sto)) : Prop :=
  ∀ (args : List D) (σ : Sto) (d : D) (σ' : Sto), s args σ = some (d, σ') → Enters P f ∧ ∀ (X : Cx) (us : Array Value), StoR X → (∀ q, X.τ q = σ[q]?) → us.size = args.length →
    DRs X args (fun j => us.getD j undef) →
    Calls P f us X.w fun e w' => ∃ v, e = .returned v ∧ ∃ X', X'.w = w' ∧ Ext X X' ∧ StoR X' ∧ (∀ q, X'.τ q = σ'[q]?) ∧ DR X' d v

theorem callerOk_of {P : Program} {c : Caller} (h : ∀ f, f ≠ yid → SumOk P f (c f)) (hy : ∀ args σ, c yid args σ = none) : CallerOk P c := fun f args σ d σ' hr => by
  by_cases hf : f = yid
  · subst hf; rw [hy] at hr; cases hr
  · obtain ⟨k1, k2⟩ := h f hf args σ d σ' hr
    refine ⟨fun _ => k1, fun X us h1 h2 h3 h4 => ?_⟩
    unfold RunG
    rw [if_neg hf]
    exact k2 X us h1 h2 h3 h4

theorem SumOk.none {P : Program} {f : FuncId} : SumOk P f fun _ _ => none := fun _ _ _ _ h => by cases h

theorem SumOk.le {P : Program} {f : FuncId} {s s' : List D → Sto → Option (D × Sto)} (h : SumOk P f s) (hs : ∀ args σ r, s' args σ = some r → s args σ = some r) : SumOk P f s' := fun args σ d σ' hr => h args σ d σ' (hs args σ _ hr)

/-- A summary, handing on. -/
def sumF (s : List D → Sto → Option (D × Sto)) : SumF := fun args σ _ K => (s args σ).bind fun p => K p.1 p.2

/-- A summary that hands on says what another one says. -/
theorem SumOk.f {P : Program} {f : FuncId} (hf : f ≠ yid) {s : List D → Sto → Option (D × Sto)} (h : SumOk P f s) {sF : SumF} (hs : ∀ args σ (R : Type) (K : D → Sto → Option R), sF args σ K = (s args σ).bind fun p => K p.1 p.2) : SumFOk P f sF := fun args σ R K r hr => by
  rw [hs] at hr
  simp only [Option.bind_eq_some_iff] at hr
  obtain ⟨⟨d, σ'⟩, h1, h2⟩ := hr
  obtain ⟨k1, k2⟩ := h args σ d σ' h1
  refine ⟨d, σ', h2, fun _ => k1, fun X us a1 a2 a3 a4 => ?_⟩
  unfold RunG
  rw [if_neg hf]
  exact k2 X us a1 a2 a3 a4
end Go.Ab

/- Loops without a bound on their rounds; what is known of a function, from its evaluation. -/
namespace Go.Ab
open Go
variable [Globs]

theorem loopN_succ {k : Nat} {body : Env → Sto → Option Out} : ∀ {n : Nat} {E : Env} {σ : Sto} {o : Out}, loopN k body n E σ = some o → loopN k body (n + 1) E σ = some o
  | 0, E, σ, o, h => by cases h
  | n + 1, E, σ, o, h => by
    unfold loopN at h ⊢
    simp only [Option.bind_eq_some_iff] at h ⊢
    obtain ⟨h1, e1, o1, e2, h3⟩ := h
    refine ⟨h1, e1, o1, e2, ?_⟩
    unfold onEx at h3 ⊢
    split at h3
    · exact loopN_succ h3
    · exact h3

theorem loopN_mono {k : Nat} {body : Env → Sto → Option Out} {n m : Nat} {E : Env} {σ : Sto} {o : Out} (h : loopN k body n E σ = some o) (hm : n ≤ m) : loopN k body m E σ = some o := by
  induction hm with
  | refl => exact h
  | step _ ih => exact loopN_succ ih

open Classical in
/-- Rounds until the end, however many. -/
noncomputable def lpC : Looper := fun _ k body E σ => if h : ∃ o, ∃ n, loopN k body n E σ = some o then some h.choose else none

theorem lpC_of {i k : Nat} {body : Env → Sto → Option Out} {n : Nat} {E : Env} {σ : Sto} {o : Out} (h : loopN k body n E σ = some o) : lpC i k body E σ = some o := by
  have hx : ∃ o, ∃ n, loopN k body n E σ = some o := ⟨o, n, h⟩
  unfold lpC
  rw [dif_pos hx]
  obtain ⟨m, hm⟩ := hx.choose_spec
  have h1 := loopN_mono h (Nat.le_max_left n m)
  have h2 := loopN_mono hm (Nat.le_max_right n m)
  rw [h1] at h2
  rw [← Option.some.inj h2]

theorem lpC_some {i k : Nat} {body : Env → Sto → Option Out} {E : Env} {σ : Sto} {o : Out} (h : lpC i k body E σ = some o) : ∃ n, loopN k body n E σ = some o := by
  unfold lpC at h
  split at h
  · rename_i hx
    cases h
    exact hx.choose_spec
  · cases h

theorem lpC_ok : LooperOk lpC := fun _ k body E σ o h => by
  obtain ⟨n, hn⟩ := lpC_some h
  exact loopN_ok k body n E σ o hn

theorem lpC_step {i k : Nat} {body : Env → Sto → Option Out} {E E1 E' : Env} {σ σ1 σ' : Sto} {o : Out} (hh : head k E σ = some (E1, σ1)) (hb : body E1 σ1 = some (.normal, E', σ')) (h : lpC i k body E' σ' = some o) : lpC i k body E σ = some o := by
  obtain ⟨n, hn⟩ := lpC_some h
  refine lpC_of (n := n + 1) ?_
  unfold loopN
  rw [hh]
  simp only [Option.bind_some, hb, onEx]
  exact hn

theorem lpC_exit {i k : Nat} {body : Env → Sto → Option Out} {E E1 E' : Env} {σ σ1 σ' : Sto} {e : Ex} (hh : head k E σ = some (E1, σ1)) (hb : body E1 σ1 = some (e, E', σ')) (he : e ≠ .normal) : lpC i k body E σ = some (e, E', σ') := by
  refine lpC_of (n := 1) ?_
  unfold loopN
  rw [hh]
  simp only [Option.bind_some, hb]
  cases e with
  | normal => exact absurd rfl he
  | exit i => rfl
  | ret => rfl

/-- The body of the loop whose first region has a number. -/
def loopAt (id : Nat) : Code → Option Code
  | .loop b => bif Nat.beq (firstRegion b) id then some b else loopAt id b
  | .seq a b => match loopAt id a with | some c => some c | none => loopAt id b
  | .cond _ a b => match loopAt id a with | some c => some c | none => loopAt id b
  | .block _ b => loopAt id b
  | .rangeFunc _ _ a b => match loopAt id a with | some c => some c | none => loopAt id b
  | _ => none
def bodyOf (P : Program) (f : FuncId) : Code := ((P.funcs[f]?).bind fun fn => fn.body).getD .skip
def lbCode (P : Program) (f : FuncId) (id : Nat) : Code := (loopAt id (bodyOf P f)).getD .skip
/-- A round of a function's loop. -/
def lb (M : Mode) (c : CallerK) (lp : Looper) (f : FuncId) (k0 id : Nat) : Env → Sto → Option Out :=
  fun env σ => evC M c lp (M.hints f) k0 (lbCode M.P f id) env σ (stop ((M.hints f (3 * id + 2)).getD []))
def hasLoop (id : Nat) (c : Code) : Bool := (loopAt id c).isSome
section
variable (M : Mode) (c : CallerK) (lp : Looper) (hk : Nat → Option (List Nat)) (k0 id : Nat)
/-- What comes behind a loop. -/
def after : Code → {R : Type} → Out → (Ex → Env → Sto → Option R) → Option R
  | .loop _, _, o, k => k o.1 o.2.1 o.2.2
  | .seq a b, _, o, k => bif hasLoop id a then after a o fun e env σ => onEx e (evC M c lp hk k0 b env σ k) fun e => k e env σ else after b o k
  | .cond x a b, _, o, k =>
    match hk (3 * condTmp x + 1) with
    | none => bif hasLoop id a then after a o k else after b o k
    | some ts => (bif hasLoop id a then after a o (stop ts) else after b o (stop ts)).bind fun o => k o.1 o.2.1 o.2.2
  | .block i b, _, o, k =>
    match hk (300000 + 3 * i) with
    | none => after b o fun e env σ => inBlock i e fun e => k e env σ
    | some ts => (after b o (stop ts)).bind fun o => inBlock i o.1 fun e => k e o.2.1 o.2.2
  | _, _, _, _ => none
end
/-- A function behind one of its loops. -/
def contF (M : Mode) (c : CallerK) (lp : Looper) (f : FuncId) (k0 id : Nat) (o : Out) : Option (D × Sto) :=
  after M c lp (M.hints f) k0 id (bodyOf M.P f) o fun e env σ' =>
    noExit e ((resultsOf M.P env σ' ((M.P.funcs[f]?).map fun fn => fn.results.toList).get!).bind fun res => finishK (M.keep f) k0 res σ' fun d σ => M.fd d fun d => M.fs σ fun σ => some (d, σ))
/-- A loop's round behind a loop within. -/
def contB (M : Mode) (c : CallerK) (lp : Looper) (f : FuncId) (k0 id0 id : Nat) (o : Out) : Option Out :=
  after M c lp (M.hints f) k0 id (lbCode M.P f id0) o (stop ((M.hints f (3 * id0 + 2)).getD []))

theorem SumOk.of_ev {M : Mode} {c : CallerK} (hm : M.P.follows .mixedOrders = true) (hc : CallerKOk M.P c) {f : FuncId} {s : List D → Sto → Option (D × Sto)}
    (hok : ∀ (fn : Func) (body : Code), M.P.funcs[f]? = some fn → fn.body = some body → fnOk fn body = true)
    (hs : ∀ args σ d' σ', s args σ = some (d', σ') → ∃ d, evBody M c lpC f args σ = some (d, σ') ∧ Wk d d') : SumOk M.P f s := fun args σ d σ' hr => by
  obtain ⟨d0, h0, hw⟩ := hs args σ d σ' hr
  obtain ⟨k1, k2⟩ := evBody_ok hc hm lpC_ok hok h0
  refine ⟨k1, fun X us h1 h2 h3 h4 => (k2 X us h1 h2 h3 h4).mono fun e w' hh => ?_⟩
  obtain ⟨v, e1, X', e2, e3, e4, e5, e6⟩ := hh
  exact ⟨v, e1, X', e2, e3, e4, e5, hw X' v e6⟩

/-- Summaries by function. -/
def tabS : List (FuncId × SumF) → FuncId → Option SumF
  | [], _ => none
  | (g, s) :: rest, f => bif Nat.beq g f then some s else tabS rest f

theorem tabS_ok {P : Program} : ∀ {l : List (FuncId × SumF)}, (∀ p ∈ l, SumFOk P p.1 p.2) → ∀ {f : FuncId} {s : SumF}, tabS l f = some s → SumFOk P f s
  | [], _, f, s, h => by cases h
  | (g, s0) :: rest, hl, f, s, h => by
    unfold tabS at h
    cases hb : Nat.beq g f with
    | true =>
      rw [hb] at h
      cases h
      have := Nat.eq_of_beq_eq_true hb
      subst this
      exact hl (g, s0) (by simp)
    | false =>
      rw [hb] at h
      exact tabS_ok (fun p hp => hl p (by simp [hp])) h

theorem sums0 {P : Program} : ∀ p ∈ ([] : List (FuncId × SumF)), SumFOk P p.1 p.2 := by simp
theorem sumsC {P : Program} {g : FuncId} {s : SumF} {l : List (FuncId × SumF)} (h : SumFOk P g s) (hl : ∀ p ∈ l, SumFOk P p.1 p.2) : ∀ p ∈ (g, s) :: l, SumFOk P p.1 p.2 := fun p hp => by
  rw [List.mem_cons] at hp
  rcases hp with rfl | hp
  · exact h
  · exact hl p hp

/-- What is entered: the functions of a list; of the others without a summary nothing is known. -/
def tabI (l : List (FuncId × SumF)) (inl : List FuncId) (f : FuncId) : Option SumF :=
  match tabS l f with
  | some s => some s
  | none => bif inl.any (Nat.beq f) then none else some fun _ _ _ _ => none

/-- The evaluator over summaries; what has none is entered, if it is on the list. -/
def evT (M : Mode) (l : List (FuncId × SumF)) (inl : List FuncId) (n : Nat) : CallerK := ev M (tabI l inl) n

/-- A function whose body keeps what the evaluator takes for granted. -/
def FnOk (P : Program) (f : FuncId) : Prop := ∀ (fn : Func) (body : Code), P.funcs[f]? = some fn → fn.body = some body → fnOk fn body = true
def fnOkB (P : Program) (f : FuncId) : Bool := match P.funcs[f]? with | none => true | some fn => match fn.body with | none => true | some b => fnOk fn b
theorem FnOk.of {P : Program} {f : FuncId} (h : fnOkB P f = true) : FnOk P f := fun fn body h1 h2 => by
  unfold fnOkB at h
  rw [h1] at h
  simp only [h2] at h
  exact h

theorem inls0 {P : Program} : ∀ f ∈ ([] : List FuncId), FnOk P f := by simp
theorem inlsC {P : Program} {f : FuncId} {l : List FuncId} (h : fnOkB P f = true) (hl : ∀ g ∈ l, FnOk P g) : ∀ g ∈ f :: l, FnOk P g := fun g hg => by
  rw [List.mem_cons] at hg
  rcases hg with rfl | hg
  · exact FnOk.of h
  · exact hl g hg

theorem evT_ok {M : Mode} (hm : M.P.follows .mixedOrders = true) {l : List (FuncId × SumF)} (hl : ∀ p ∈ l, SumFOk M.P p.1 p.2) {inl : List FuncId} (hi : ∀ f ∈ inl, FnOk M.P f) (n : Nat) : CallerKOk M.P (evT M l inl n) :=
  ev_ok hm (fun f fn body h1 h2 h3 => by
    unfold tabI at h3
    split at h3
    · cases h3
    · cases ha : inl.any (Nat.beq f) with
      | true =>
        rw [List.any_eq_true] at ha
        obtain ⟨g, hg, he⟩ := ha
        have := Nat.eq_of_beq_eq_true he
        subst this
        exact hi f hg fn body h1 h2
      | false => rw [ha] at h3; cases h3) (fun f s hs => by
    unfold tabI at hs
    split at hs
    · rename_i s' hs'
      cases hs
      exact tabS_ok hl hs'
    · cases ha : inl.any (Nat.beq f) with
      | true => rw [ha] at hs; cases hs
      | false =>
        rw [ha] at hs
        cases hs
        exact fun _ _ _ _ _ h => by cases h) n
end Go.Ab

/- Loops of a counted number of rounds; numbers that fit. -/
namespace Go.Ab
open Go
variable [Globs]

/-- Rounds n, .., m-1 go on, round m ends. -/
theorem lpC_run {id k : Nat} {body : Env → Sto → Option Out} (E : Nat → Env) (σ : Nat → Sto) {m : Nat} {e : Ex} {E' : Env} {σ' : Sto} :
    ∀ (d n : Nat), n + d = m → (∀ i, n ≤ i → i ≤ m → head k (E i) (σ i) = some (E i, σ i)) → (∀ i, n ≤ i → i < m → body (E i) (σ i) = some (.normal, E (i + 1), σ (i + 1))) →
      body (E m) (σ m) = some (e, E', σ') → e ≠ .normal → lpC id k body (E n) (σ n) = some (e, E', σ')
  | 0, n, hd, hh, hs, he, hne => by
    have : n = m := by omega
    subst this
    exact lpC_exit (hh n (Nat.le_refl _) (Nat.le_refl _)) he hne
  | d + 1, n, hd, hh, hs, he, hne => by
    refine lpC_step (hh n (Nat.le_refl _) (by omega)) (hs n (Nat.le_refl _) (by omega)) ?_
    exact lpC_run E σ d (n + 1) (by omega) (fun i h1 h2 => hh i (by omega) h2) (fun i h1 h2 => hs i (by omega) h2) he hne

/-- A loop over a list that ends early at the first element that is not p. -/
theorem lpC_scan {α : Type} {id k : Nat} {body : Env → Sto → Option Out} (l : List α) (p : α → Bool) (E E2 : Nat → Env) (σ : Sto) {e e2 : Ex} {Ee : Env}
    (hh : ∀ i, i ≤ l.length → head k (E i) σ = some (E i, σ)) (hgo : ∀ i x, l[i]? = some x → p x = true → body (E i) σ = some (.normal, E (i + 1), σ))
    (hbad : ∀ i x, l[i]? = some x → p x = false → body (E i) σ = some (e2, E2 i, σ)) (hend : body (E l.length) σ = some (e, Ee, σ)) (he : e ≠ .normal) (he2 : e2 ≠ .normal) :
    (l.all p = true ∧ lpC id k body (E 0) σ = some (e, Ee, σ)) ∨
    (l.all p = false ∧ ∃ i x, l[i]? = some x ∧ p x = false ∧ (∀ j y, j < i → l[j]? = some y → p y = true) ∧ lpC id k body (E 0) σ = some (e2, E2 i, σ)) := by
  suffices H : ∀ (d n : Nat), n + d = l.length → (∀ j y, j < n → l[j]? = some y → p y = true) →
      ((∀ j y, l[j]? = some y → p y = true) ∧ lpC id k body (E n) σ = some (e, Ee, σ)) ∨
      (∃ i x, l[i]? = some x ∧ p x = false ∧ (∀ j y, j < i → l[j]? = some y → p y = true) ∧ lpC id k body (E n) σ = some (e2, E2 i, σ)) by
    rcases H l.length 0 (by omega) (fun j y hj => by omega) with ⟨h1, h2⟩ | ⟨i, x, h1, h2, h3, h4⟩
    · refine .inl ⟨?_, h2⟩
      rw [List.all_eq_true]
      intro x hx
      obtain ⟨j, hj⟩ := List.getElem?_of_mem hx
      exact h1 j x hj
    · refine .inr ⟨?_, i, x, h1, h2, h3, h4⟩
      rw [List.all_eq_false]
      exact ⟨x, List.mem_of_getElem? h1, by simp [h2]⟩
  intro d
  induction d with
  | zero =>
    intro n hn hp
    have : n = l.length := by omega
    subst this
    exact .inl ⟨fun j y hj => hp j y (List.getElem?_eq_some_iff.1 hj).1 hj, lpC_exit (hh _ (Nat.le_refl _)) hend he⟩
  | succ d ih =>
    intro n hn hp
    have hlt : n < l.length := by omega
    have hx : l[n]? = some l[n] := List.getElem?_eq_getElem hlt
    cases hpx : p l[n] with
    | false => exact .inr ⟨n, l[n], hx, hpx, hp, lpC_exit (hh n (by omega)) (hbad n _ hx hpx) he2⟩
    | true =>
      have hp' : ∀ j y, j < n + 1 → l[j]? = some y → p y = true := fun j y hj hy => by
        by_cases hjn : j < n
        · exact hp j y hjn hy
        · have : j = n := by omega
          subst this
          rw [hx] at hy
          cases hy
          exact hpx
      rcases ih (n + 1) (by omega) hp' with ⟨h1, h2⟩ | ⟨i, x, h1, h2, h3, h4⟩
      · exact .inl ⟨h1, lpC_step (hh n (by omega)) (hgo n _ hx hpx) h2⟩
      · exact .inr ⟨i, x, h1, h2, h3, lpC_step (hh n (by omega)) (hgo n _ hx hpx) h4⟩

/-- Rounds, each with what is to be shown of the end. -/
theorem lpC_res {id k : Nat} {body : Env → Sto → Option Out} (E : Nat → Env) (σ : Nat → Sto) (n : Nat) (G : Nat → Out → Prop) (hh : ∀ i, i ≤ n → head k (E i) (σ i) = some (E i, σ i))
    (hs : ∀ i, i ≤ n → (i < n ∧ body (E i) (σ i) = some (.normal, E (i + 1), σ (i + 1)) ∧ ∀ o, G (i + 1) o → G i o) ∨ (∃ e E' σ', body (E i) (σ i) = some (e, E', σ') ∧ e ≠ .normal ∧ G i (e, E', σ'))) :
    ∀ (d i : Nat), i + d = n → ∃ o, lpC id k body (E i) (σ i) = some o ∧ G i o
  | 0, i, hd => by
    rcases hs i (by omega) with ⟨h, _⟩ | ⟨e, E', σ', h1, h2, h3⟩
    · omega
    · exact ⟨_, lpC_exit (hh i (by omega)) h1 h2, h3⟩
  | d + 1, i, hd => by
    rcases hs i (by omega) with ⟨h, h1, h2⟩ | ⟨e, E', σ', h1, h2, h3⟩
    · obtain ⟨o, k1, k2⟩ := lpC_res E σ n G hh hs d (i + 1) (by omega)
      exact ⟨o, lpC_step (hh i (by omega)) h1 k1, h2 o k2⟩
    · exact ⟨_, lpC_exit (hh i (by omega)) h1 h2, h3⟩

theorem wrap_i64 {x : Int} (h0 : -9223372036854775808 ≤ x) (h1 : x < 9223372036854775808) : IntKind.i64.wrap x = x := by
  have h : IntKind.i64.wrap x = if (true && decide (x % 18446744073709551616 ≥ 9223372036854775808)) = true then x % 18446744073709551616 - 18446744073709551616 else x % 18446744073709551616 := rfl
  rw [h]
  simp only [Bool.true_and, decide_eq_true_eq]
  split <;> omega
theorem wrap_u8 {x : Int} (h0 : 0 ≤ x) (h1 : x < 256) : IntKind.u8.wrap x = x := by
  have h : IntKind.u8.wrap x = if (false && decide (x % 256 ≥ 128)) = true then x % 256 - 256 else x % 256 := rfl
  rw [h]
  simp only [Bool.false_and, Bool.false_eq_true, if_false]
  omega
end Go.Ab

/- Values in the form that a decoder gives them. -/
namespace Go.Ab
open Go
variable [Globs]

/-- A summary from the evaluation at arguments in canonical form. -/
theorem SumOk.of_can {M : Mode} {c : CallerK} (hm : M.P.follows .mixedOrders = true) (hc : CallerKOk M.P c) {f : FuncId} {s : List D → Sto → Option (D × Sto)} (hok : FnOk M.P f)
    (hs : ∀ args σ d' σ', s args σ = some (d', σ') → ∃ args0 d, WkDs args args0 ∧ evBody M c lpC f args0 σ = some (d, σ') ∧ Wk d d') : SumOk M.P f s := fun args σ d σ' hr => by
  obtain ⟨args0, d0, ha, h0, hw⟩ := hs args σ d σ' hr
  obtain ⟨k1, k2⟩ := evBody_ok hc hm lpC_ok hok h0
  refine ⟨k1, fun X us h1 h2 h3 h4 => (k2 X us h1 h2 (by rw [h3, ha.length]) (ha.dr h4)).mono fun e w' hh => ?_⟩
  obtain ⟨v, e1, X', e2, e3, e4, e5, e6⟩ := hh
  exact ⟨v, e1, X', e2, e3, e4, e5, hw X' v e6⟩

/-- .. of one that hands on. -/
theorem SumFOk.of_can {M : Mode} {c : CallerK} (hm : M.P.follows .mixedOrders = true) (hc : CallerKOk M.P c) {f : FuncId} {s : SumF} (hok : FnOk M.P f) (hf : f ≠ yid)
    (hs : ∀ args σ (R : Type) (K : D → Sto → Option R) r, s args σ K = some r → ∃ args0 d d' σ', WkDs args args0 ∧ evBody M c lpC f args0 σ = some (d, σ') ∧ Wk d d' ∧ K d' σ' = some r) : SumFOk M.P f s := fun args σ R K r hr => by
  obtain ⟨args0, d0, d', σ', ha, h0, hw, hK⟩ := hs args σ R K r hr
  obtain ⟨k1, k2⟩ := evBody_ok hc hm lpC_ok hok h0
  refine ⟨d', σ', hK, fun _ => k1, fun X us h1 h2 h3 h4 => ?_⟩
  unfold RunG
  rw [if_neg hf]
  refine (k2 X us h1 h2 (by rw [h3, ha.length]) (ha.dr h4)).mono fun e w' hh => ?_
  obtain ⟨v, e1, X', e2, e3, e4, e5, e6⟩ := hh
  exact ⟨v, e1, X', e2, e3, e4, e5, hw X' v e6⟩

/-! ### Decoding -/
theorem WkSL.nil : WkSL [] [] := ⟨rfl, fun j x y h => by simp at h⟩
theorem WkSL.cons {x y : V} {xs ys : List V} (h : WkS x y) (hs : WkSL xs ys) : WkSL (x :: xs) (y :: ys) :=
  ⟨by simp [hs.1], fun j a b ha hb => by
    cases j with
    | zero => simp at ha hb; subst ha hb; exact h
    | succ j => exact hs.2 j a b (by simpa using ha) (by simpa using hb)⟩
theorem WkSL.append {xs ys xs' ys' : List V} (h : WkSL xs ys) (h' : WkSL xs' ys') : WkSL (xs ++ xs') (ys ++ ys') := by
  induction xs generalizing ys with
  | nil =>
    have : ys = [] := by have := h.1; simpa using this.symm
    subst this
    simpa using h'
  | cons x xs ih =>
    cases ys with
    | nil => have := h.1; simp at this
    | cons y ys => exact WkSL.cons (h.2 0 x y rfl rfl) (ih ⟨by have := h.1; simpa using this, fun j a b ha hb => h.2 (j + 1) a b (by simpa using ha) (by simpa using hb)⟩)

theorem retags_wk (τ : Nat → Tag) : ∀ {ds : List D} {vs ys : List V} (i : Nat), (∀ j, τ (i + j) = tagsOf ds j) → valsOf ds = some vs → WkSL vs ys → WkDs ds (retags τ i ys)
  | [], vs, ys, i, ht, hd, h => by
    simp only [valsOf, Option.some.injEq] at hd
    subst hd
    have : ys = [] := by have := h.1; simpa using this.symm
    subst this
    exact .nil
  | d :: ds, vs, ys, i, ht, hd, h => by
    simp only [valsOf, Option.bind_eq_some_iff, Option.some.injEq] at hd
    obtain ⟨v, h1, ws, h2, rfl⟩ := hd
    cases ys with
    | nil => have := h.1; simp at this
    | cons y ys =>
      simp only [retags]
      refine .cons ?_ (retags_wk τ (i + 1) (fun j => ?_) h2 ⟨by have := h.1; simpa using this, fun j a b ha hb => h.2 (j + 1) a b (by simpa using ha) (by simpa using hb)⟩)
      · have := ht 0
        rw [Nat.add_zero] at this
        rw [this]
        exact retag_wk h1 (h.2 0 v y rfl rfl)
      · rw [show i + 1 + j = i + (j + 1) by omega, ht]
        rfl

/-- A slice's tag and elements. -/
def slOf (n : Nat) : D → Option (Tag × List (List V))
  | .v .nils => some (.imm, [])
  | .sl t m xs => bif Nat.beq m n then some (t, xs) else none
  | .v (.sl m xs) => bif Nat.beq m n then some (.imm, xs) else none
  | _ => none
theorem slOf_wk {n : Nat} {d : D} {t : Tag} {xs : List (List V)} (h : slOf n d = some (t, xs)) : Wk d (.sl t n xs) := by
  unfold slOf at h
  split at h
  · cases h; exact wk_nils n
  · rename_i t' m ys
    obtain ⟨h1, h2⟩ := bif_some h
    cases h2
    have := Nat.eq_of_beq_eq_true h1
    subst this
    exact Wk.refl _
  · rename_i m ys
    obtain ⟨h1, h2⟩ := bif_some h
    cases h2
    have := Nat.eq_of_beq_eq_true h1
    subst this
    exact wk_vsl
  · cases h
end Go.Ab

/- The program's structs as Lean structures; their cells, and back. Made by GenTypes.py. -/
namespace Go.Sp
open Go Go.Ab
abbrev I (n : Int) : V := .int .i64 n
def decI : V → Option Int
  | .int .i64 n => some n
  | _ => none
def decS : V → Option ByteArray
  | .str s => some s
  | _ => none
/-- The elements of a slice with n cells each. -/
def elV (n : Nat) : V → Option (List (List V))
  | .nils => some []
  | .sl m xs => bif m == n then some xs else none
  | _ => none
theorem decI_wk [Globs] {v : V} {n : Int} (h : decI v = some n) : WkS v (I n) := by
  unfold decI at h
  split at h
  · cases h; exact .refl _
  · cases h
theorem decS_wk [Globs] {v : V} {n : ByteArray} (h : decS v = some n) : WkS v (.str n) := by
  unfold decS at h
  split at h
  · cases h; exact .refl _
  · cases h
def decL {α : Type} (dec : List V → Option α) : List (List V) → Option (List α)
  | [] => some []
  | x :: xs => match dec x with
    | none => none
    | some y => match decL dec xs with
      | none => none
      | some ys => some (y :: ys)
def decSl {α : Type} (n : Nat) (dec : List V → Option α) (v : V) : Option (List α) := match elV n v with | none => none | some xs => decL dec xs
theorem decL_map {α : Type} {dec : List V → Option α} {enc : α → List V} (h : ∀ x, dec (enc x) = some x) : ∀ l : List α, decL dec (l.map enc) = some l
  | [] => rfl
  | x :: xs => by simp only [List.map_cons, decL, h, decL_map h xs]
theorem decSl_map {α : Type} {n : Nat} {dec : List V → Option α} {enc : α → List V} (h : ∀ x, dec (enc x) = some x) (l : List α) : decSl n dec (.sl n (l.map enc)) = some l := by
  simp only [decSl, elV, beq_self_eq_true, cond_true, decL_map h]
theorem decL_inv {α : Type} {dec : List V → Option α} {enc : α → List V} (R : List V → List V → Prop) (h : ∀ x y, dec x = some y → R x (enc y)) : ∀ {xs : List (List V)} {l : List α}, decL dec xs = some l → xs.length = l.length ∧ ∀ (i : Nat) x y, xs[i]? = some x → l[i]? = some y → R x (enc y)
  | [], l, hd => by
    simp only [decL, Option.some.injEq] at hd
    subst hd
    exact ⟨rfl, fun i x y hx _ => by simp at hx⟩
  | x :: xs, l, hd => by
    unfold decL at hd
    split at hd
    · cases hd
    · rename_i y hy
      split at hd
      · cases hd
      · rename_i ys hys
        cases hd
        obtain ⟨h1, h2⟩ := decL_inv R h hys
        refine ⟨by simp [h1], fun i a b ha hb => ?_⟩
        cases i with
        | zero => simp at ha hb; subst ha hb; exact h x _ hy
        | succ i => exact h2 i a b (by simpa using ha) (by simpa using hb)
theorem decSl_wk [Globs] {α : Type} {n : Nat} {dec : List V → Option α} {enc : α → List V} (h : ∀ x y, dec x = some y → WkSL x (enc y)) {v : V} {l : List α} (hd : decSl n dec v = some l) : WkS v (.sl n (l.map enc)) := by
  unfold decSl elV at hd
  split at hd
  · cases hd
  · rename_i xs hx
    obtain ⟨k1, k2⟩ := decL_inv (enc := enc) WkSL h hd
    split at hx
    · cases hx
      have : l = [] := by simpa using k1.symm
      subst this
      exact .nils n
    · rename_i m ys
      obtain ⟨h1, h2⟩ := bif_some hx
      cases h2
      have hmn : m = n := by simpa using h1
      subst hmn
      have key : ∀ (i : Nat) x y, xs[i]? = some x → (l.map enc)[i]? = some y → WkSL x y := fun i x y hx hy => by
        rw [List.getElem?_map, Option.map_eq_some_iff] at hy
        obtain ⟨z, hz, rfl⟩ := hy
        exact k2 i x z hx hz
      exact .sl _ _ _ (by simp [k1]) (fun i x y hx hy => (key i x y hx hy).1) (fun i x y j a b hx hy ha hb => (key i x y hx hy).2 j a b ha hb)
    · cases hx
/-- A slice's tag and elements, as they are read. -/
def slD {α : Type} (n : Nat) (dec : List V → Option α) (d : D) : Option (Tag × List α) := (slOf n d).bind fun p => (decL dec p.2).bind fun l => some (p.1, l)
theorem slD_wk [Globs] {α : Type} {n : Nat} {dec : List V → Option α} {enc : α → List V} (h : ∀ x y, dec x = some y → WkSL x (enc y)) {d : D} {t : Tag} {l : List α} (hd : slD n dec d = some (t, l)) : Wk d (.sl t n (l.map enc)) := by
  unfold slD at hd
  simp only [Option.bind_eq_some_iff, Option.some.injEq, Prod.mk.injEq] at hd
  obtain ⟨⟨t', xs⟩, h1, l', h2, rfl, rfl⟩ := hd
  obtain ⟨k1, k2⟩ := decL_inv (enc := enc) WkSL h h2
  refine (slOf_wk h1).trans (wk_sl (by simp [k1]) fun i x y hx hy => ?_)
  rw [List.getElem?_map, Option.map_eq_some_iff] at hy
  obtain ⟨z, hz, rfl⟩ := hy
  have := k2 i x z hx hz
  exact ⟨this.1, fun j a b ha hb => (this.2 j a b ha hb).wk⟩
theorem slD_sl {α : Type} {n : Nat} {dec : List V → Option α} {enc : α → List V} (h : ∀ x, dec (enc x) = some x) (t : Tag) (l : List α) : slD n dec (.sl t n (l.map enc)) = some (t, l) := by
  have hb : Nat.beq n n = true := Nat.beq_refl n
  simp only [slD, slOf, hb, cond_true, Option.bind_some, decL_map h]
/-- A struct's value. -/
def agD {α : Type} (dec : List V → Option α) : D → Option ((Nat → Tag) × α)
  | .agg ds => (valsOf ds).bind fun vs => (dec vs).bind fun x => some (tagsOf ds, x)
  | _ => none
theorem agD_wk [Globs] {α : Type} {dec : List V → Option α} {enc : α → List V} (h : ∀ x y, dec x = some y → WkSL x (enc y)) {d : D} {τ : Nat → Tag} {x : α} (hd : agD dec d = some (τ, x)) : Wk d (.agg (retags τ 0 (enc x))) := by
  unfold agD at hd
  split at hd
  · rename_i ds
    simp only [Option.bind_eq_some_iff, Option.some.injEq, Prod.mk.injEq] at hd
    obtain ⟨vs, h1, x', h2, rfl, rfl⟩ := hd
    exact wk_agg (retags_wk _ 0 (fun j => by rw [Nat.zero_add]) h1 (h _ _ h2))
  · cases hd
abbrev intC (n : Int) : List V := [I n]
abbrev strC (s : ByteArray) : List V := [V.str s]
def dInt : List V → Option Int
  | [v] => decI v
  | _ => none
def dStr : List V → Option ByteArray
  | [v] => decS v
  | _ => none
theorem dInt_wk [Globs] (x : List V) (y : Int) (h : dInt x = some y) : WkSL x (intC y) := by
  unfold dInt at h
  split at h
  · exact .cons (decI_wk h) .nil
  · cases h
theorem dStr_wk [Globs] (x : List V) (y : ByteArray) (h : dStr x = some y) : WkSL x (strC y) := by
  unfold dStr at h
  split at h
  · exact .cons (decS_wk h) .nil
  · cases h
@[simp] theorem dInt_intC (n : Int) : dInt (intC n) = some n := rfl
@[simp] theorem dStr_strC (s : ByteArray) : dStr (strC s) = some s := rfl

structure Key where
  day : Int
  source : Int
  number : Int
  deriving Inhabited, DecidableEq
abbrev Key.cells (x : Key) : List V := [I x.day, I x.source, I x.number]
def Key.dec : List V → Option Key
  | [a_day, a_source, a_number] =>
    (decI a_day).bind fun a_day =>
    (decI a_source).bind fun a_source =>
    (decI a_number).bind fun a_number =>
    some ⟨a_day, a_source, a_number⟩
  | _ => none
@[simp] theorem Key.dec_cells (x : Key) : Key.dec x.cells = some x := by
  simp only [Key.cells, Key.dec, decI, decS, Option.bind_some]
theorem Key.dec_wk [Globs] (x : List V) (y : Key) (h : Key.dec x = some y) : WkSL x y.cells := by
  unfold Key.dec at h
  split at h
  · simp only [Option.bind_eq_some_iff, Option.some.injEq] at h
    obtain ⟨x0, h0, x1, h1, x2, h2, rfl⟩ := h
    exact .cons (decI_wk h0) (.cons (decI_wk h1) (.cons (decI_wk h2) .nil))
  · cases h
abbrev Key.d (x : Key) : D := .agg [D.v (I x.day), D.v (I x.source), D.v (I x.number)]
abbrev Key.dt (τ : Nat → Tag) (x : Key) : D := .agg [D.v (I x.day), D.v (I x.source), D.v (I x.number)]
theorem Key.decD_wk [Globs] {d : D} {τ : Nat → Tag} {x : Key} (h : agD Key.dec d = some (τ, x)) : Wk d (x.dt τ) := agD_wk Key.dec_wk h
@[simp] theorem Key.agD_c (x : Key) : agD Key.dec (.agg [D.v (I x.day), D.v (I x.source), D.v (I x.number)]) = some (tagsOf [D.v (I x.day), D.v (I x.source), D.v (I x.number)], x) := by
  have h := Key.dec_cells x
  simp only [Key.cells] at h
  simp only [agD, valsOf, Ab.valOf, Option.bind_some, h]

structure Fact where
  key : Key
  kind : Int
  numbers : List Int
  texts : List ByteArray
  deriving Inhabited, DecidableEq
abbrev Fact.cells (x : Fact) : List V := [I x.key.day, I x.key.source, I x.key.number, I x.kind, V.sl 1 (List.map intC x.numbers), V.sl 1 (List.map strC x.texts)]
def Fact.dec : List V → Option Fact
  | [a_key_day, a_key_source, a_key_number, a_kind, a_numbers, a_texts] =>
    (decI a_key_day).bind fun a_key_day =>
    (decI a_key_source).bind fun a_key_source =>
    (decI a_key_number).bind fun a_key_number =>
    (decI a_kind).bind fun a_kind =>
    (decSl 1 dInt a_numbers).bind fun a_numbers =>
    (decSl 1 dStr a_texts).bind fun a_texts =>
    some ⟨⟨a_key_day, a_key_source, a_key_number⟩, a_kind, a_numbers, a_texts⟩
  | _ => none
@[simp] theorem Fact.dec_cells (x : Fact) : Fact.dec x.cells = some x := by
  simp only [Fact.cells, Fact.dec, decI, decS, Option.bind_some, decSl_map dInt_intC, decSl_map dStr_strC]
theorem Fact.dec_wk [Globs] (x : List V) (y : Fact) (h : Fact.dec x = some y) : WkSL x y.cells := by
  unfold Fact.dec at h
  split at h
  · simp only [Option.bind_eq_some_iff, Option.some.injEq] at h
    obtain ⟨x0, h0, x1, h1, x2, h2, x3, h3, x4, h4, x5, h5, rfl⟩ := h
    exact .cons (decI_wk h0) (.cons (decI_wk h1) (.cons (decI_wk h2) (.cons (decI_wk h3) (.cons (decSl_wk dInt_wk h4) (.cons (decSl_wk dStr_wk h5) .nil)))))
  · cases h
abbrev Fact.d (x : Fact) : D := .agg [D.v (I x.key.day), D.v (I x.key.source), D.v (I x.key.number), D.v (I x.kind), D.sl .imm 1 (List.map intC x.numbers), D.sl .imm 1 (List.map strC x.texts)]
abbrev Fact.dt (τ : Nat → Tag) (x : Fact) : D := .agg [D.v (I x.key.day), D.v (I x.key.source), D.v (I x.key.number), D.v (I x.kind), D.sl (τ 4) 1 (List.map intC x.numbers), D.sl (τ 5) 1 (List.map strC x.texts)]
theorem Fact.decD_wk [Globs] {d : D} {τ : Nat → Tag} {x : Fact} (h : agD Fact.dec d = some (τ, x)) : Wk d (x.dt τ) := agD_wk Fact.dec_wk h
@[simp] theorem Fact.agD_c (t4 t5 : Tag) (x : Fact) : agD Fact.dec (.agg [D.v (I x.key.day), D.v (I x.key.source), D.v (I x.key.number), D.v (I x.kind), D.sl t4 1 (List.map intC x.numbers), D.sl t5 1 (List.map strC x.texts)]) = some (tagsOf [D.v (I x.key.day), D.v (I x.key.source), D.v (I x.key.number), D.v (I x.kind), D.sl t4 1 (List.map intC x.numbers), D.sl t5 1 (List.map strC x.texts)], x) := by
  have h := Fact.dec_cells x
  simp only [Fact.cells] at h
  simp only [agD, valsOf, Ab.valOf, Option.bind_some, h]

structure Liquid where
  alcohol : Int
  mass : Int
  deriving Inhabited, DecidableEq
abbrev Liquid.cells (x : Liquid) : List V := [I x.alcohol, I x.mass]
def Liquid.dec : List V → Option Liquid
  | [a_alcohol, a_mass] =>
    (decI a_alcohol).bind fun a_alcohol =>
    (decI a_mass).bind fun a_mass =>
    some ⟨a_alcohol, a_mass⟩
  | _ => none
@[simp] theorem Liquid.dec_cells (x : Liquid) : Liquid.dec x.cells = some x := by
  simp only [Liquid.cells, Liquid.dec, decI, decS, Option.bind_some]
theorem Liquid.dec_wk [Globs] (x : List V) (y : Liquid) (h : Liquid.dec x = some y) : WkSL x y.cells := by
  unfold Liquid.dec at h
  split at h
  · simp only [Option.bind_eq_some_iff, Option.some.injEq] at h
    obtain ⟨x0, h0, x1, h1, rfl⟩ := h
    exact .cons (decI_wk h0) (.cons (decI_wk h1) .nil)
  · cases h
abbrev Liquid.d (x : Liquid) : D := .agg [D.v (I x.alcohol), D.v (I x.mass)]
abbrev Liquid.dt (τ : Nat → Tag) (x : Liquid) : D := .agg [D.v (I x.alcohol), D.v (I x.mass)]
theorem Liquid.decD_wk [Globs] {d : D} {τ : Nat → Tag} {x : Liquid} (h : agD Liquid.dec d = some (τ, x)) : Wk d (x.dt τ) := agD_wk Liquid.dec_wk h
@[simp] theorem Liquid.agD_c (x : Liquid) : agD Liquid.dec (.agg [D.v (I x.alcohol), D.v (I x.mass)]) = some (tagsOf [D.v (I x.alcohol), D.v (I x.mass)], x) := by
  have h := Liquid.dec_cells x
  simp only [Liquid.cells] at h
  simp only [agD, valsOf, Ab.valOf, Option.bind_some, h]

structure Share where
  fill : Int
  alcohol : Int
  deriving Inhabited, DecidableEq
abbrev Share.cells (x : Share) : List V := [I x.fill, I x.alcohol]
def Share.dec : List V → Option Share
  | [a_fill, a_alcohol] =>
    (decI a_fill).bind fun a_fill =>
    (decI a_alcohol).bind fun a_alcohol =>
    some ⟨a_fill, a_alcohol⟩
  | _ => none
@[simp] theorem Share.dec_cells (x : Share) : Share.dec x.cells = some x := by
  simp only [Share.cells, Share.dec, decI, decS, Option.bind_some]
theorem Share.dec_wk [Globs] (x : List V) (y : Share) (h : Share.dec x = some y) : WkSL x y.cells := by
  unfold Share.dec at h
  split at h
  · simp only [Option.bind_eq_some_iff, Option.some.injEq] at h
    obtain ⟨x0, h0, x1, h1, rfl⟩ := h
    exact .cons (decI_wk h0) (.cons (decI_wk h1) .nil)
  · cases h
abbrev Share.d (x : Share) : D := .agg [D.v (I x.fill), D.v (I x.alcohol)]
abbrev Share.dt (τ : Nat → Tag) (x : Share) : D := .agg [D.v (I x.fill), D.v (I x.alcohol)]
theorem Share.decD_wk [Globs] {d : D} {τ : Nat → Tag} {x : Share} (h : agD Share.dec d = some (τ, x)) : Wk d (x.dt τ) := agD_wk Share.dec_wk h
@[simp] theorem Share.agD_c (x : Share) : agD Share.dec (.agg [D.v (I x.fill), D.v (I x.alcohol)]) = some (tagsOf [D.v (I x.fill), D.v (I x.alcohol)], x) := by
  have h := Share.dec_cells x
  simp only [Share.cells] at h
  simp only [agD, valsOf, Ab.valOf, Option.bind_some, h]

structure Lot where
  id : Int
  liquid : Liquid
  shares : List Share
  deriving Inhabited, DecidableEq
abbrev Lot.cells (x : Lot) : List V := [I x.id, I x.liquid.alcohol, I x.liquid.mass, V.sl 2 (List.map Share.cells x.shares)]
def Lot.dec : List V → Option Lot
  | [a_id, a_liquid_alcohol, a_liquid_mass, a_shares] =>
    (decI a_id).bind fun a_id =>
    (decI a_liquid_alcohol).bind fun a_liquid_alcohol =>
    (decI a_liquid_mass).bind fun a_liquid_mass =>
    (decSl 2 Share.dec a_shares).bind fun a_shares =>
    some ⟨a_id, ⟨a_liquid_alcohol, a_liquid_mass⟩, a_shares⟩
  | _ => none
@[simp] theorem Lot.dec_cells (x : Lot) : Lot.dec x.cells = some x := by
  simp only [Lot.cells, Lot.dec, decI, decS, Option.bind_some, decSl_map Share.dec_cells]
theorem Lot.dec_wk [Globs] (x : List V) (y : Lot) (h : Lot.dec x = some y) : WkSL x y.cells := by
  unfold Lot.dec at h
  split at h
  · simp only [Option.bind_eq_some_iff, Option.some.injEq] at h
    obtain ⟨x0, h0, x1, h1, x2, h2, x3, h3, rfl⟩ := h
    exact .cons (decI_wk h0) (.cons (decI_wk h1) (.cons (decI_wk h2) (.cons (decSl_wk Share.dec_wk h3) .nil)))
  · cases h
abbrev Lot.d (x : Lot) : D := .agg [D.v (I x.id), D.v (I x.liquid.alcohol), D.v (I x.liquid.mass), D.sl .imm 2 (List.map Share.cells x.shares)]
abbrev Lot.dt (τ : Nat → Tag) (x : Lot) : D := .agg [D.v (I x.id), D.v (I x.liquid.alcohol), D.v (I x.liquid.mass), D.sl (τ 3) 2 (List.map Share.cells x.shares)]
theorem Lot.decD_wk [Globs] {d : D} {τ : Nat → Tag} {x : Lot} (h : agD Lot.dec d = some (τ, x)) : Wk d (x.dt τ) := agD_wk Lot.dec_wk h
@[simp] theorem Lot.agD_c (t3 : Tag) (x : Lot) : agD Lot.dec (.agg [D.v (I x.id), D.v (I x.liquid.alcohol), D.v (I x.liquid.mass), D.sl t3 2 (List.map Share.cells x.shares)]) = some (tagsOf [D.v (I x.id), D.v (I x.liquid.alcohol), D.v (I x.liquid.mass), D.sl t3 2 (List.map Share.cells x.shares)], x) := by
  have h := Lot.dec_cells x
  simp only [Lot.cells] at h
  simp only [agD, valsOf, Ab.valOf, Option.bind_some, h]

structure Fill where
  id : Int
  cls : Int
  day : Int
  origin : ByteArray
  allergens : List ByteArray
  deriving Inhabited, DecidableEq
abbrev Fill.cells (x : Fill) : List V := [I x.id, I x.cls, I x.day, V.str x.origin, V.sl 1 (List.map strC x.allergens)]
def Fill.dec : List V → Option Fill
  | [a_id, a_cls, a_day, a_origin, a_allergens] =>
    (decI a_id).bind fun a_id =>
    (decI a_cls).bind fun a_cls =>
    (decI a_day).bind fun a_day =>
    (decS a_origin).bind fun a_origin =>
    (decSl 1 dStr a_allergens).bind fun a_allergens =>
    some ⟨a_id, a_cls, a_day, a_origin, a_allergens⟩
  | _ => none
@[simp] theorem Fill.dec_cells (x : Fill) : Fill.dec x.cells = some x := by
  simp only [Fill.cells, Fill.dec, decI, decS, Option.bind_some, decSl_map dStr_strC]
theorem Fill.dec_wk [Globs] (x : List V) (y : Fill) (h : Fill.dec x = some y) : WkSL x y.cells := by
  unfold Fill.dec at h
  split at h
  · simp only [Option.bind_eq_some_iff, Option.some.injEq] at h
    obtain ⟨x0, h0, x1, h1, x2, h2, x3, h3, x4, h4, rfl⟩ := h
    exact .cons (decI_wk h0) (.cons (decI_wk h1) (.cons (decI_wk h2) (.cons (decS_wk h3) (.cons (decSl_wk dStr_wk h4) .nil))))
  · cases h
abbrev Fill.d (x : Fill) : D := .agg [D.v (I x.id), D.v (I x.cls), D.v (I x.day), D.v (V.str x.origin), D.sl .imm 1 (List.map strC x.allergens)]
abbrev Fill.dt (τ : Nat → Tag) (x : Fill) : D := .agg [D.v (I x.id), D.v (I x.cls), D.v (I x.day), D.v (V.str x.origin), D.sl (τ 4) 1 (List.map strC x.allergens)]
theorem Fill.decD_wk [Globs] {d : D} {τ : Nat → Tag} {x : Fill} (h : agD Fill.dec d = some (τ, x)) : Wk d (x.dt τ) := agD_wk Fill.dec_wk h
@[simp] theorem Fill.agD_c (t4 : Tag) (x : Fill) : agD Fill.dec (.agg [D.v (I x.id), D.v (I x.cls), D.v (I x.day), D.v (V.str x.origin), D.sl t4 1 (List.map strC x.allergens)]) = some (tagsOf [D.v (I x.id), D.v (I x.cls), D.v (I x.day), D.v (V.str x.origin), D.sl t4 1 (List.map strC x.allergens)], x) := by
  have h := Fill.dec_cells x
  simp only [Fill.cells] at h
  simp only [agD, valsOf, Ab.valOf, Option.bind_some, h]

structure Step where
  id : Int
  kind : Int
  src : Int
  dst : Int
  alcohol : Int
  mass : Int
  fill : Fill
  deriving Inhabited, DecidableEq
abbrev Step.cells (x : Step) : List V := [I x.id, I x.kind, I x.src, I x.dst, I x.alcohol, I x.mass, I x.fill.id, I x.fill.cls, I x.fill.day, V.str x.fill.origin, V.sl 1 (List.map strC x.fill.allergens)]
def Step.dec : List V → Option Step
  | [a_id, a_kind, a_src, a_dst, a_alcohol, a_mass, a_fill_id, a_fill_cls, a_fill_day, a_fill_origin, a_fill_allergens] =>
    (decI a_id).bind fun a_id =>
    (decI a_kind).bind fun a_kind =>
    (decI a_src).bind fun a_src =>
    (decI a_dst).bind fun a_dst =>
    (decI a_alcohol).bind fun a_alcohol =>
    (decI a_mass).bind fun a_mass =>
    (decI a_fill_id).bind fun a_fill_id =>
    (decI a_fill_cls).bind fun a_fill_cls =>
    (decI a_fill_day).bind fun a_fill_day =>
    (decS a_fill_origin).bind fun a_fill_origin =>
    (decSl 1 dStr a_fill_allergens).bind fun a_fill_allergens =>
    some ⟨a_id, a_kind, a_src, a_dst, a_alcohol, a_mass, ⟨a_fill_id, a_fill_cls, a_fill_day, a_fill_origin, a_fill_allergens⟩⟩
  | _ => none
@[simp] theorem Step.dec_cells (x : Step) : Step.dec x.cells = some x := by
  simp only [Step.cells, Step.dec, decI, decS, Option.bind_some, decSl_map dStr_strC]
theorem Step.dec_wk [Globs] (x : List V) (y : Step) (h : Step.dec x = some y) : WkSL x y.cells := by
  unfold Step.dec at h
  split at h
  · simp only [Option.bind_eq_some_iff, Option.some.injEq] at h
    obtain ⟨x0, h0, x1, h1, x2, h2, x3, h3, x4, h4, x5, h5, x6, h6, x7, h7, x8, h8, x9, h9, x10, h10, rfl⟩ := h
    exact .cons (decI_wk h0) (.cons (decI_wk h1) (.cons (decI_wk h2) (.cons (decI_wk h3) (.cons (decI_wk h4) (.cons (decI_wk h5) (.cons (decI_wk h6) (.cons (decI_wk h7) (.cons (decI_wk h8) (.cons (decS_wk h9) (.cons (decSl_wk dStr_wk h10) .nil))))))))))
  · cases h
abbrev Step.d (x : Step) : D := .agg [D.v (I x.id), D.v (I x.kind), D.v (I x.src), D.v (I x.dst), D.v (I x.alcohol), D.v (I x.mass), D.v (I x.fill.id), D.v (I x.fill.cls), D.v (I x.fill.day), D.v (V.str x.fill.origin), D.sl .imm 1 (List.map strC x.fill.allergens)]
abbrev Step.dt (τ : Nat → Tag) (x : Step) : D := .agg [D.v (I x.id), D.v (I x.kind), D.v (I x.src), D.v (I x.dst), D.v (I x.alcohol), D.v (I x.mass), D.v (I x.fill.id), D.v (I x.fill.cls), D.v (I x.fill.day), D.v (V.str x.fill.origin), D.sl (τ 10) 1 (List.map strC x.fill.allergens)]
theorem Step.decD_wk [Globs] {d : D} {τ : Nat → Tag} {x : Step} (h : agD Step.dec d = some (τ, x)) : Wk d (x.dt τ) := agD_wk Step.dec_wk h
@[simp] theorem Step.agD_c (t10 : Tag) (x : Step) : agD Step.dec (.agg [D.v (I x.id), D.v (I x.kind), D.v (I x.src), D.v (I x.dst), D.v (I x.alcohol), D.v (I x.mass), D.v (I x.fill.id), D.v (I x.fill.cls), D.v (I x.fill.day), D.v (V.str x.fill.origin), D.sl t10 1 (List.map strC x.fill.allergens)]) = some (tagsOf [D.v (I x.id), D.v (I x.kind), D.v (I x.src), D.v (I x.dst), D.v (I x.alcohol), D.v (I x.mass), D.v (I x.fill.id), D.v (I x.fill.cls), D.v (I x.fill.day), D.v (V.str x.fill.origin), D.sl t10 1 (List.map strC x.fill.allergens)], x) := by
  have h := Step.dec_cells x
  simp only [Step.cells] at h
  simp only [agD, valsOf, Ab.valOf, Option.bind_some, h]

structure Cellar where
  fills : List Fill
  lots : List Lot
  removed : List Lot
  last : Int
  deriving Inhabited, DecidableEq
abbrev Cellar.cells (x : Cellar) : List V := [V.sl 5 (List.map Fill.cells x.fills), V.sl 4 (List.map Lot.cells x.lots), V.sl 4 (List.map Lot.cells x.removed), I x.last]
def Cellar.dec : List V → Option Cellar
  | [a_fills, a_lots, a_removed, a_last] =>
    (decSl 5 Fill.dec a_fills).bind fun a_fills =>
    (decSl 4 Lot.dec a_lots).bind fun a_lots =>
    (decSl 4 Lot.dec a_removed).bind fun a_removed =>
    (decI a_last).bind fun a_last =>
    some ⟨a_fills, a_lots, a_removed, a_last⟩
  | _ => none
@[simp] theorem Cellar.dec_cells (x : Cellar) : Cellar.dec x.cells = some x := by
  simp only [Cellar.cells, Cellar.dec, decI, decS, Option.bind_some, decSl_map Fill.dec_cells, decSl_map Lot.dec_cells]
theorem Cellar.dec_wk [Globs] (x : List V) (y : Cellar) (h : Cellar.dec x = some y) : WkSL x y.cells := by
  unfold Cellar.dec at h
  split at h
  · simp only [Option.bind_eq_some_iff, Option.some.injEq] at h
    obtain ⟨x0, h0, x1, h1, x2, h2, x3, h3, rfl⟩ := h
    exact .cons (decSl_wk Fill.dec_wk h0) (.cons (decSl_wk Lot.dec_wk h1) (.cons (decSl_wk Lot.dec_wk h2) (.cons (decI_wk h3) .nil)))
  · cases h
abbrev Cellar.d (x : Cellar) : D := .agg [D.sl .imm 5 (List.map Fill.cells x.fills), D.sl .imm 4 (List.map Lot.cells x.lots), D.sl .imm 4 (List.map Lot.cells x.removed), D.v (I x.last)]
abbrev Cellar.dt (τ : Nat → Tag) (x : Cellar) : D := .agg [D.sl (τ 0) 5 (List.map Fill.cells x.fills), D.sl (τ 1) 4 (List.map Lot.cells x.lots), D.sl (τ 2) 4 (List.map Lot.cells x.removed), D.v (I x.last)]
theorem Cellar.decD_wk [Globs] {d : D} {τ : Nat → Tag} {x : Cellar} (h : agD Cellar.dec d = some (τ, x)) : Wk d (x.dt τ) := agD_wk Cellar.dec_wk h
@[simp] theorem Cellar.agD_c (t0 t1 t2 : Tag) (x : Cellar) : agD Cellar.dec (.agg [D.sl t0 5 (List.map Fill.cells x.fills), D.sl t1 4 (List.map Lot.cells x.lots), D.sl t2 4 (List.map Lot.cells x.removed), D.v (I x.last)]) = some (tagsOf [D.sl t0 5 (List.map Fill.cells x.fills), D.sl t1 4 (List.map Lot.cells x.lots), D.sl t2 4 (List.map Lot.cells x.removed), D.v (I x.last)], x) := by
  have h := Cellar.dec_cells x
  simp only [Cellar.cells] at h
  simp only [agD, valsOf, Ab.valOf, Option.bind_some, h]

structure Account where
  received : Int
  surplus : Int
  transit : Int
  delivered : Int
  lost : Int
  charged : Int
  deriving Inhabited, DecidableEq
abbrev Account.cells (x : Account) : List V := [I x.received, I x.surplus, I x.transit, I x.delivered, I x.lost, I x.charged]
def Account.dec : List V → Option Account
  | [a_received, a_surplus, a_transit, a_delivered, a_lost, a_charged] =>
    (decI a_received).bind fun a_received =>
    (decI a_surplus).bind fun a_surplus =>
    (decI a_transit).bind fun a_transit =>
    (decI a_delivered).bind fun a_delivered =>
    (decI a_lost).bind fun a_lost =>
    (decI a_charged).bind fun a_charged =>
    some ⟨a_received, a_surplus, a_transit, a_delivered, a_lost, a_charged⟩
  | _ => none
@[simp] theorem Account.dec_cells (x : Account) : Account.dec x.cells = some x := by
  simp only [Account.cells, Account.dec, decI, decS, Option.bind_some]
theorem Account.dec_wk [Globs] (x : List V) (y : Account) (h : Account.dec x = some y) : WkSL x y.cells := by
  unfold Account.dec at h
  split at h
  · simp only [Option.bind_eq_some_iff, Option.some.injEq] at h
    obtain ⟨x0, h0, x1, h1, x2, h2, x3, h3, x4, h4, x5, h5, rfl⟩ := h
    exact .cons (decI_wk h0) (.cons (decI_wk h1) (.cons (decI_wk h2) (.cons (decI_wk h3) (.cons (decI_wk h4) (.cons (decI_wk h5) .nil)))))
  · cases h
abbrev Account.d (x : Account) : D := .agg [D.v (I x.received), D.v (I x.surplus), D.v (I x.transit), D.v (I x.delivered), D.v (I x.lost), D.v (I x.charged)]
abbrev Account.dt (τ : Nat → Tag) (x : Account) : D := .agg [D.v (I x.received), D.v (I x.surplus), D.v (I x.transit), D.v (I x.delivered), D.v (I x.lost), D.v (I x.charged)]
theorem Account.decD_wk [Globs] {d : D} {τ : Nat → Tag} {x : Account} (h : agD Account.dec d = some (τ, x)) : Wk d (x.dt τ) := agD_wk Account.dec_wk h
@[simp] theorem Account.agD_c (x : Account) : agD Account.dec (.agg [D.v (I x.received), D.v (I x.surplus), D.v (I x.transit), D.v (I x.delivered), D.v (I x.lost), D.v (I x.charged)]) = some (tagsOf [D.v (I x.received), D.v (I x.surplus), D.v (I x.transit), D.v (I x.delivered), D.v (I x.lost), D.v (I x.charged)], x) := by
  have h := Account.dec_cells x
  simp only [Account.cells] at h
  simp only [agD, valsOf, Ab.valOf, Option.bind_some, h]

structure Item where
  id : Int
  cls : Int
  day : Int
  alcohol : Int
  relief : Int
  deriving Inhabited, DecidableEq
abbrev Item.cells (x : Item) : List V := [I x.id, I x.cls, I x.day, I x.alcohol, I x.relief]
def Item.dec : List V → Option Item
  | [a_id, a_cls, a_day, a_alcohol, a_relief] =>
    (decI a_id).bind fun a_id =>
    (decI a_cls).bind fun a_cls =>
    (decI a_day).bind fun a_day =>
    (decI a_alcohol).bind fun a_alcohol =>
    (decI a_relief).bind fun a_relief =>
    some ⟨a_id, a_cls, a_day, a_alcohol, a_relief⟩
  | _ => none
@[simp] theorem Item.dec_cells (x : Item) : Item.dec x.cells = some x := by
  simp only [Item.cells, Item.dec, decI, decS, Option.bind_some]
theorem Item.dec_wk [Globs] (x : List V) (y : Item) (h : Item.dec x = some y) : WkSL x y.cells := by
  unfold Item.dec at h
  split at h
  · simp only [Option.bind_eq_some_iff, Option.some.injEq] at h
    obtain ⟨x0, h0, x1, h1, x2, h2, x3, h3, x4, h4, rfl⟩ := h
    exact .cons (decI_wk h0) (.cons (decI_wk h1) (.cons (decI_wk h2) (.cons (decI_wk h3) (.cons (decI_wk h4) .nil))))
  · cases h
abbrev Item.d (x : Item) : D := .agg [D.v (I x.id), D.v (I x.cls), D.v (I x.day), D.v (I x.alcohol), D.v (I x.relief)]
abbrev Item.dt (τ : Nat → Tag) (x : Item) : D := .agg [D.v (I x.id), D.v (I x.cls), D.v (I x.day), D.v (I x.alcohol), D.v (I x.relief)]
theorem Item.decD_wk [Globs] {d : D} {τ : Nat → Tag} {x : Item} (h : agD Item.dec d = some (τ, x)) : Wk d (x.dt τ) := agD_wk Item.dec_wk h
@[simp] theorem Item.agD_c (x : Item) : agD Item.dec (.agg [D.v (I x.id), D.v (I x.cls), D.v (I x.day), D.v (I x.alcohol), D.v (I x.relief)]) = some (tagsOf [D.v (I x.id), D.v (I x.cls), D.v (I x.day), D.v (I x.alcohol), D.v (I x.relief)], x) := by
  have h := Item.dec_cells x
  simp only [Item.cells] at h
  simp only [agD, valsOf, Ab.valOf, Option.bind_some, h]

structure Exposure where
  id : Int
  bond : Int
  cls : Int
  sent : Int
  alcohol : Int
  deriving Inhabited, DecidableEq
abbrev Exposure.cells (x : Exposure) : List V := [I x.id, I x.bond, I x.cls, I x.sent, I x.alcohol]
def Exposure.dec : List V → Option Exposure
  | [a_id, a_bond, a_cls, a_sent, a_alcohol] =>
    (decI a_id).bind fun a_id =>
    (decI a_bond).bind fun a_bond =>
    (decI a_cls).bind fun a_cls =>
    (decI a_sent).bind fun a_sent =>
    (decI a_alcohol).bind fun a_alcohol =>
    some ⟨a_id, a_bond, a_cls, a_sent, a_alcohol⟩
  | _ => none
@[simp] theorem Exposure.dec_cells (x : Exposure) : Exposure.dec x.cells = some x := by
  simp only [Exposure.cells, Exposure.dec, decI, decS, Option.bind_some]
theorem Exposure.dec_wk [Globs] (x : List V) (y : Exposure) (h : Exposure.dec x = some y) : WkSL x y.cells := by
  unfold Exposure.dec at h
  split at h
  · simp only [Option.bind_eq_some_iff, Option.some.injEq] at h
    obtain ⟨x0, h0, x1, h1, x2, h2, x3, h3, x4, h4, rfl⟩ := h
    exact .cons (decI_wk h0) (.cons (decI_wk h1) (.cons (decI_wk h2) (.cons (decI_wk h3) (.cons (decI_wk h4) .nil))))
  · cases h
abbrev Exposure.d (x : Exposure) : D := .agg [D.v (I x.id), D.v (I x.bond), D.v (I x.cls), D.v (I x.sent), D.v (I x.alcohol)]
abbrev Exposure.dt (τ : Nat → Tag) (x : Exposure) : D := .agg [D.v (I x.id), D.v (I x.bond), D.v (I x.cls), D.v (I x.sent), D.v (I x.alcohol)]
theorem Exposure.decD_wk [Globs] {d : D} {τ : Nat → Tag} {x : Exposure} (h : agD Exposure.dec d = some (τ, x)) : Wk d (x.dt τ) := agD_wk Exposure.dec_wk h
@[simp] theorem Exposure.agD_c (x : Exposure) : agD Exposure.dec (.agg [D.v (I x.id), D.v (I x.bond), D.v (I x.cls), D.v (I x.sent), D.v (I x.alcohol)]) = some (tagsOf [D.v (I x.id), D.v (I x.bond), D.v (I x.cls), D.v (I x.sent), D.v (I x.alcohol)], x) := by
  have h := Exposure.dec_cells x
  simp only [Exposure.cells] at h
  simp only [agD, valsOf, Ab.valOf, Option.bind_some, h]

structure Denial where
  key : Key
  err : Int
  deriving Inhabited, DecidableEq
abbrev Denial.cells (x : Denial) : List V := [I x.key.day, I x.key.source, I x.key.number, I x.err]
def Denial.dec : List V → Option Denial
  | [a_key_day, a_key_source, a_key_number, a_err] =>
    (decI a_key_day).bind fun a_key_day =>
    (decI a_key_source).bind fun a_key_source =>
    (decI a_key_number).bind fun a_key_number =>
    (decI a_err).bind fun a_err =>
    some ⟨⟨a_key_day, a_key_source, a_key_number⟩, a_err⟩
  | _ => none
@[simp] theorem Denial.dec_cells (x : Denial) : Denial.dec x.cells = some x := by
  simp only [Denial.cells, Denial.dec, decI, decS, Option.bind_some]
theorem Denial.dec_wk [Globs] (x : List V) (y : Denial) (h : Denial.dec x = some y) : WkSL x y.cells := by
  unfold Denial.dec at h
  split at h
  · simp only [Option.bind_eq_some_iff, Option.some.injEq] at h
    obtain ⟨x0, h0, x1, h1, x2, h2, x3, h3, rfl⟩ := h
    exact .cons (decI_wk h0) (.cons (decI_wk h1) (.cons (decI_wk h2) (.cons (decI_wk h3) .nil)))
  · cases h
abbrev Denial.d (x : Denial) : D := .agg [D.v (I x.key.day), D.v (I x.key.source), D.v (I x.key.number), D.v (I x.err)]
abbrev Denial.dt (τ : Nat → Tag) (x : Denial) : D := .agg [D.v (I x.key.day), D.v (I x.key.source), D.v (I x.key.number), D.v (I x.err)]
theorem Denial.decD_wk [Globs] {d : D} {τ : Nat → Tag} {x : Denial} (h : agD Denial.dec d = some (τ, x)) : Wk d (x.dt τ) := agD_wk Denial.dec_wk h
@[simp] theorem Denial.agD_c (x : Denial) : agD Denial.dec (.agg [D.v (I x.key.day), D.v (I x.key.source), D.v (I x.key.number), D.v (I x.err)]) = some (tagsOf [D.v (I x.key.day), D.v (I x.key.source), D.v (I x.key.number), D.v (I x.err)], x) := by
  have h := Denial.dec_cells x
  simp only [Denial.cells] at h
  simp only [agD, valsOf, Ab.valOf, Option.bind_some, h]

structure State where
  cellar : Cellar
  account : Account
  moving : List Exposure
  items : List Item
  denied : List Denial
  deriving Inhabited, DecidableEq
abbrev State.cells (x : State) : List V := [V.sl 5 (List.map Fill.cells x.cellar.fills), V.sl 4 (List.map Lot.cells x.cellar.lots), V.sl 4 (List.map Lot.cells x.cellar.removed), I x.cellar.last, I x.account.received, I x.account.surplus, I x.account.transit, I x.account.delivered, I x.account.lost, I x.account.charged, V.sl 5 (List.map Exposure.cells x.moving), V.sl 5 (List.map Item.cells x.items), V.sl 4 (List.map Denial.cells x.denied)]
def State.dec : List V → Option State
  | [a_cellar_fills, a_cellar_lots, a_cellar_removed, a_cellar_last, a_account_received, a_account_surplus, a_account_transit, a_account_delivered, a_account_lost, a_account_charged, a_moving, a_items, a_denied] =>
    (decSl 5 Fill.dec a_cellar_fills).bind fun a_cellar_fills =>
    (decSl 4 Lot.dec a_cellar_lots).bind fun a_cellar_lots =>
    (decSl 4 Lot.dec a_cellar_removed).bind fun a_cellar_removed =>
    (decI a_cellar_last).bind fun a_cellar_last =>
    (decI a_account_received).bind fun a_account_received =>
    (decI a_account_surplus).bind fun a_account_surplus =>
    (decI a_account_transit).bind fun a_account_transit =>
    (decI a_account_delivered).bind fun a_account_delivered =>
    (decI a_account_lost).bind fun a_account_lost =>
    (decI a_account_charged).bind fun a_account_charged =>
    (decSl 5 Exposure.dec a_moving).bind fun a_moving =>
    (decSl 5 Item.dec a_items).bind fun a_items =>
    (decSl 4 Denial.dec a_denied).bind fun a_denied =>
    some ⟨⟨a_cellar_fills, a_cellar_lots, a_cellar_removed, a_cellar_last⟩, ⟨a_account_received, a_account_surplus, a_account_transit, a_account_delivered, a_account_lost, a_account_charged⟩, a_moving, a_items, a_denied⟩
  | _ => none
@[simp] theorem State.dec_cells (x : State) : State.dec x.cells = some x := by
  simp only [State.cells, State.dec, decI, decS, Option.bind_some, decSl_map Denial.dec_cells, decSl_map Exposure.dec_cells, decSl_map Fill.dec_cells, decSl_map Item.dec_cells, decSl_map Lot.dec_cells]
theorem State.dec_wk [Globs] (x : List V) (y : State) (h : State.dec x = some y) : WkSL x y.cells := by
  unfold State.dec at h
  split at h
  · simp only [Option.bind_eq_some_iff, Option.some.injEq] at h
    obtain ⟨x0, h0, x1, h1, x2, h2, x3, h3, x4, h4, x5, h5, x6, h6, x7, h7, x8, h8, x9, h9, x10, h10, x11, h11, x12, h12, rfl⟩ := h
    exact .cons (decSl_wk Fill.dec_wk h0) (.cons (decSl_wk Lot.dec_wk h1) (.cons (decSl_wk Lot.dec_wk h2) (.cons (decI_wk h3) (.cons (decI_wk h4) (.cons (decI_wk h5) (.cons (decI_wk h6) (.cons (decI_wk h7) (.cons (decI_wk h8) (.cons (decI_wk h9) (.cons (decSl_wk Exposure.dec_wk h10) (.cons (decSl_wk Item.dec_wk h11) (.cons (decSl_wk Denial.dec_wk h12) .nil))))))))))))
  · cases h
abbrev State.d (x : State) : D := .agg [D.sl .imm 5 (List.map Fill.cells x.cellar.fills), D.sl .imm 4 (List.map Lot.cells x.cellar.lots), D.sl .imm 4 (List.map Lot.cells x.cellar.removed), D.v (I x.cellar.last), D.v (I x.account.received), D.v (I x.account.surplus), D.v (I x.account.transit), D.v (I x.account.delivered), D.v (I x.account.lost), D.v (I x.account.charged), D.sl .imm 5 (List.map Exposure.cells x.moving), D.sl .imm 5 (List.map Item.cells x.items), D.sl .imm 4 (List.map Denial.cells x.denied)]
abbrev State.dt (τ : Nat → Tag) (x : State) : D := .agg [D.sl (τ 0) 5 (List.map Fill.cells x.cellar.fills), D.sl (τ 1) 4 (List.map Lot.cells x.cellar.lots), D.sl (τ 2) 4 (List.map Lot.cells x.cellar.removed), D.v (I x.cellar.last), D.v (I x.account.received), D.v (I x.account.surplus), D.v (I x.account.transit), D.v (I x.account.delivered), D.v (I x.account.lost), D.v (I x.account.charged), D.sl (τ 10) 5 (List.map Exposure.cells x.moving), D.sl (τ 11) 5 (List.map Item.cells x.items), D.sl (τ 12) 4 (List.map Denial.cells x.denied)]
theorem State.decD_wk [Globs] {d : D} {τ : Nat → Tag} {x : State} (h : agD State.dec d = some (τ, x)) : Wk d (x.dt τ) := agD_wk State.dec_wk h
@[simp] theorem State.agD_c (t0 t1 t2 t10 t11 t12 : Tag) (x : State) : agD State.dec (.agg [D.sl t0 5 (List.map Fill.cells x.cellar.fills), D.sl t1 4 (List.map Lot.cells x.cellar.lots), D.sl t2 4 (List.map Lot.cells x.cellar.removed), D.v (I x.cellar.last), D.v (I x.account.received), D.v (I x.account.surplus), D.v (I x.account.transit), D.v (I x.account.delivered), D.v (I x.account.lost), D.v (I x.account.charged), D.sl t10 5 (List.map Exposure.cells x.moving), D.sl t11 5 (List.map Item.cells x.items), D.sl t12 4 (List.map Denial.cells x.denied)]) = some (tagsOf [D.sl t0 5 (List.map Fill.cells x.cellar.fills), D.sl t1 4 (List.map Lot.cells x.cellar.lots), D.sl t2 4 (List.map Lot.cells x.cellar.removed), D.v (I x.cellar.last), D.v (I x.account.received), D.v (I x.account.surplus), D.v (I x.account.transit), D.v (I x.account.delivered), D.v (I x.account.lost), D.v (I x.account.charged), D.sl t10 5 (List.map Exposure.cells x.moving), D.sl t11 5 (List.map Item.cells x.items), D.sl t12 4 (List.map Denial.cells x.denied)], x) := by
  have h := State.dec_cells x
  simp only [State.cells] at h
  simp only [agD, valsOf, Ab.valOf, Option.bind_some, h]

structure Merged where
  facts : List Fact
  conflicts : List Key
  idle : List Key
  refused : List Key
  deriving Inhabited, DecidableEq
abbrev Merged.cells (x : Merged) : List V := [V.sl 6 (List.map Fact.cells x.facts), V.sl 3 (List.map Key.cells x.conflicts), V.sl 3 (List.map Key.cells x.idle), V.sl 3 (List.map Key.cells x.refused)]
def Merged.dec : List V → Option Merged
  | [a_facts, a_conflicts, a_idle, a_refused] =>
    (decSl 6 Fact.dec a_facts).bind fun a_facts =>
    (decSl 3 Key.dec a_conflicts).bind fun a_conflicts =>
    (decSl 3 Key.dec a_idle).bind fun a_idle =>
    (decSl 3 Key.dec a_refused).bind fun a_refused =>
    some ⟨a_facts, a_conflicts, a_idle, a_refused⟩
  | _ => none
@[simp] theorem Merged.dec_cells (x : Merged) : Merged.dec x.cells = some x := by
  simp only [Merged.cells, Merged.dec, decI, decS, Option.bind_some, decSl_map Fact.dec_cells, decSl_map Key.dec_cells]
theorem Merged.dec_wk [Globs] (x : List V) (y : Merged) (h : Merged.dec x = some y) : WkSL x y.cells := by
  unfold Merged.dec at h
  split at h
  · simp only [Option.bind_eq_some_iff, Option.some.injEq] at h
    obtain ⟨x0, h0, x1, h1, x2, h2, x3, h3, rfl⟩ := h
    exact .cons (decSl_wk Fact.dec_wk h0) (.cons (decSl_wk Key.dec_wk h1) (.cons (decSl_wk Key.dec_wk h2) (.cons (decSl_wk Key.dec_wk h3) .nil)))
  · cases h
abbrev Merged.d (x : Merged) : D := .agg [D.sl .imm 6 (List.map Fact.cells x.facts), D.sl .imm 3 (List.map Key.cells x.conflicts), D.sl .imm 3 (List.map Key.cells x.idle), D.sl .imm 3 (List.map Key.cells x.refused)]
abbrev Merged.dt (τ : Nat → Tag) (x : Merged) : D := .agg [D.sl (τ 0) 6 (List.map Fact.cells x.facts), D.sl (τ 1) 3 (List.map Key.cells x.conflicts), D.sl (τ 2) 3 (List.map Key.cells x.idle), D.sl (τ 3) 3 (List.map Key.cells x.refused)]
theorem Merged.decD_wk [Globs] {d : D} {τ : Nat → Tag} {x : Merged} (h : agD Merged.dec d = some (τ, x)) : Wk d (x.dt τ) := agD_wk Merged.dec_wk h
@[simp] theorem Merged.agD_c (t0 t1 t2 t3 : Tag) (x : Merged) : agD Merged.dec (.agg [D.sl t0 6 (List.map Fact.cells x.facts), D.sl t1 3 (List.map Key.cells x.conflicts), D.sl t2 3 (List.map Key.cells x.idle), D.sl t3 3 (List.map Key.cells x.refused)]) = some (tagsOf [D.sl t0 6 (List.map Fact.cells x.facts), D.sl t1 3 (List.map Key.cells x.conflicts), D.sl t2 3 (List.map Key.cells x.idle), D.sl t3 3 (List.map Key.cells x.refused)], x) := by
  have h := Merged.dec_cells x
  simp only [Merged.cells] at h
  simp only [agD, valsOf, Ab.valOf, Option.bind_some, h]

end Go.Sp

/- Results that are made plainer: frozen rows, nil slices as empty rows. -/
namespace Go.Ab
open Go Go.Sp
variable [Globs]

theorem CallSem.args {P : Program} {f : FuncId} {args args0 : List D} {σ σ' : Sto} {d : D} (h : CallSem P f args0 σ d σ') (ha : WkDs args args0) : CallSem P f args σ d σ' :=
  ⟨h.1, fun X us h1 h2 h3 h4 => h.2 X us h1 h2 (by rw [h3, ha.length]) (ha.dr h4)⟩

theorem CallSem.post {P : Program} {f : FuncId} {args : List D} {σ σ1 σ2 : Sto} {d1 d2 : D} (h : CallSem P f args σ d1 σ1)
    (hp : ∀ (X0 X : Cx) (v : Value), (∀ q, X0.τ q = σ[q]?) → Ext X0 X → StoR X → (∀ q, X.τ q = σ1[q]?) → DR X d1 v → ∃ X', X'.w = X.w ∧ Ext X0 X' ∧ StoR X' ∧ (∀ q, X'.τ q = σ2[q]?) ∧ DR X' d2 v) : CallSem P f args σ d2 σ2 :=
  ⟨h.1, fun X us h1 h2 h3 h4 => RunG.mono (h.2 X us h1 h2 h3 h4) fun e w' hh => by
    obtain ⟨v, rfl, X', rfl, e1, e2, e3, e4⟩ := hh
    obtain ⟨X'', k1, k2, k3, k4, k5⟩ := hp X X' v h2 e1 e2 e3 e4
    exact ⟨v, rfl, X'', k1, k2, k3, k4, k5⟩⟩

theorem CallSem.wk {P : Program} {f : FuncId} {args : List D} {σ σ' : Sto} {d d' : D} (h : CallSem P f args σ d σ') (hw : Wk d d') : CallSem P f args σ d' σ' :=
  h.post fun X0 X v _ h1 h2 h3 h4 => ⟨X, rfl, h1, h2, h3, hw _ _ h4⟩

/-- A row of the callee's own that is handed back, frozen. -/
theorem CallSem.freeze {P : Program} {f : FuncId} {args : List D} {n g off len : Nat} {xs : List (List V)} (h : CallSem P f args [] (.rs 0 g n off len) [.arr n g xs]) : CallSem P f args [] (.sl .imm n (window xs off len)) [] :=
  h.post fun X0 X v h0 h1 h2 h3 h4 => by
    obtain ⟨X', f1, f2, f3, f4, f5⟩ := settleCell_ok h2 h3 (d' := .sl .imm n (window xs off len)) (σ' := [.frz n g xs]) h4 (by simp [settleCell, rowAt])
    refine ⟨X'.sel [] [], f1, sel_ext0 (k0 := 0) (fun q _ => by rw [h0]; simp) (h1.trans f2) ⟨[], rfl⟩, sel_sto (lent := []) f3 List.nodup_nil (by simp) (by simp), fun q => by simp [Cx.sel], ?_⟩
    simp only [DR] at f5 ⊢
    exact f5

/-- A nil slice as an empty row. -/
theorem CallSem.fresh {P : Program} {f : FuncId} {args : List D} {n : Nat} (hn : 0 < n) (h : CallSem P f args [] (.sl .full n []) []) : CallSem P f args [] (.rs 0 0 n 0 0) [.arr n 0 []] :=
  h.post fun X0 X v h0 h1 h2 h3 h4 => by
    have hno : ∀ q, X.τ q = none := fun q => by rw [h3]; simp
    let X' : Cx := { X with L := fun j => if j = 0 then ⟨0, 0, 0⟩ else X.L j, τ := fun j => if j = 0 then some (.arr n 0 []) else none }
    have hτ : ∀ r row, X'.τ r = some row → r = 0 ∧ row = .arr n 0 [] := fun r row hr => by
      show r = 0 ∧ _
      have hr : (if r = 0 then some (Row.arr n 0 []) else none) = some row := hr
      split at hr
      · rename_i h; cases hr; exact ⟨h, rfl⟩
      · cases hr
    have hown : ∀ b, ¬ Own X' b := fun b ⟨r, row, e1, e2, e3⟩ => by
      obtain ⟨rfl, rfl⟩ := hτ r row e1
      have : (0 : Nat) < 0 := e2
      omega
    refine ⟨X', rfl, ⟨h1.os, h1.tape, h1.output, h1.size, h1.blk, fun b hb => absurd hb (hown b), h1.S, h1.T, h1.nS, h1.nT, fun r row hr => by rw [h0] at hr; simp at hr, h1.drawn⟩, ⟨fun r row hr => ?_, fun r r' row row' e1 e2 e3 e4 e5 => ?_, fun b o ht => hown b, h2.sub, h2.live, h2.glob⟩, fun q => ?_, ?_⟩
    · obtain ⟨rfl, rfl⟩ := hτ r row hr
      exact ⟨hn, by simp, by simp, fun hh => by have : (0 : Nat) < 0 := hh; omega⟩
    · obtain ⟨rfl, rfl⟩ := hτ r row e1
      obtain ⟨rfl, rfl⟩ := hτ r' row' e2
      rfl
    · show (if q = 0 then some (Row.arr n 0 []) else none) = _
      cases q <;> simp
    · simp only [DR] at h4 ⊢
      obtain ⟨a, _, _, _, h4, _⟩ := h4
      · refine ⟨a, 0, h4, Nat.le_refl _, fun hh => by omega, n, 0, [], .inl rfl, Nat.le_refl _, fun _ => ⟨rfl, by simp, ?_, fun hh => by omega⟩⟩
        show 0 + 0 = 0
        rfl

/-- slices.Clone: a row of the call's own. -/
def clM (n b : Nat) : SumF := fun args σ _ K =>
  match args, σ with
  | [a], [] => (slOf n a).bind fun q => bif room b q.2.length then K (.rs 0 0 n 0 q.2.length) [.arr n 0 q.2] else none
  | _, _ => none
/-- .. of what is known, element by element. -/
def clT {α : Type} (n b : Nat) (dec : List V → Option α) (enc : α → List V) : SumF := fun args σ _ K =>
  match args, σ with
  | [a], [] => (slD n dec a).bind fun q => bif room b q.2.length then K (.rs 0 0 n 0 q.2.length) [.arr n 0 (q.2.map enc)] else none
  | _, _ => none
/-- .. whose cells nobody writes. -/
def clZ {α : Type} (n b : Nat) (dec : List V → Option α) (enc : α → List V) : SumF := fun args σ _ K =>
  match args, σ with
  | [a], [] => (slD n dec a).bind fun q => bif room b q.2.length then K (.sl .imm n (q.2.map enc)) [] else none
  | _, _ => none

theorem clone_sem {P : Program} {f : FuncId} (hf : f ≠ yid) {n b : Nat} (hn : 0 < n) (h : SumOk P f (cloneS n b)) {t : Tag} {xs : List (List V)} (hr : room b xs.length = true) : CallSem P f [.sl t n xs] [] (.rs 0 0 n 0 xs.length) [.arr n 0 xs] := by
  have key : ∀ d σ', cloneS n b [.sl t n xs] [] = some (d, σ') → CallSem P f [.sl t n xs] [] d σ' := fun d σ' hc => by
    obtain ⟨k1, k2⟩ := h _ _ d σ' hc
    exact ⟨fun _ => k1, fun X us a1 a2 a3 a4 => by unfold RunG; rw [if_neg hf]; exact k2 X us a1 a2 a3 a4⟩
  cases xs with
  | nil => exact CallSem.fresh hn (key (.sl .full n []) [] (by simp [cloneS, room]))
  | cons y ys => exact key _ _ (by simp only [cloneS, beq_self_eq_true, hr, Bool.and_self, cond_true])

theorem clM_ok {P : Program} {f : FuncId} (hf : f ≠ yid) {n b : Nat} (hn : 0 < n) (h : SumOk P f (cloneS n b)) : SumFOk P f (clM n b) := fun args σ R K r hr => by
  unfold clM at hr
  split at hr
  · simp only [Option.bind_eq_some_iff] at hr
    obtain ⟨⟨t, xs⟩, h1, h2⟩ := hr
    obtain ⟨h3, h4⟩ := bif_some h2
    exact ⟨_, _, h4, (clone_sem hf hn h h3).args (.cons (slOf_wk h1) .nil)⟩
  · cases hr
theorem clT_ok {P : Program} {f : FuncId} (hf : f ≠ yid) {n b : Nat} (hn : 0 < n) (h : SumOk P f (cloneS n b)) {α : Type} {dec : List V → Option α} {enc : α → List V} (hd : ∀ x y, dec x = some y → WkSL x (enc y)) : SumFOk P f (clT n b dec enc) := fun args σ R K r hr => by
  unfold clT at hr
  split at hr
  · simp only [Option.bind_eq_some_iff] at hr
    obtain ⟨⟨t, l⟩, h1, h2⟩ := hr
    obtain ⟨h3, h4⟩ := bif_some h2
    have := (clone_sem hf hn h (t := t) (xs := l.map enc) (by simpa using h3)).args (.cons (slD_wk hd h1) .nil)
    rw [List.length_map] at this
    exact ⟨_, _, h4, this⟩
  · cases hr
theorem clZ_ok {P : Program} {f : FuncId} (hf : f ≠ yid) {n b : Nat} (hn : 0 < n) (h : SumOk P f (cloneS n b)) {α : Type} {dec : List V → Option α} {enc : α → List V} (hd : ∀ x y, dec x = some y → WkSL x (enc y)) : SumFOk P f (clZ n b dec enc) := fun args σ R K r hr => by
  unfold clZ at hr
  split at hr
  · simp only [Option.bind_eq_some_iff] at hr
    obtain ⟨⟨t, l⟩, h1, h2⟩ := hr
    obtain ⟨h3, h4⟩ := bif_some h2
    have := ((clone_sem hf hn h (t := t) (xs := l.map enc) (by simpa using h3)).args (.cons (slD_wk hd h1) .nil)).freeze
    have e : window (l.map enc) 0 (l.map enc).length = l.map enc := by unfold window; rw [List.drop_zero, List.take_length]
    rw [e] at this
    exact ⟨_, _, h4, this⟩
  · cases hr
end Go.Ab
namespace Go.Ab
open Go Go.Sp
variable [Globs]

/-- A row whose elements are known less well. -/
theorem row0_wk {X : Cx} (hX : StoR X) {n g : Nat} {xs ys : List (List V)} (h0 : X.τ 0 = some (.arr n g xs)) (hl : xs.length = ys.length) (hw : ∀ (i : Nat) x y, xs[i]? = some x → ys[i]? = some y → WkSL x y) :
    ∃ X' : Cx, X'.w = X.w ∧ Ext X X' ∧ StoR X' ∧ X'.τ 0 = some (.arr n g ys) ∧ (∀ q, q ≠ 0 → X'.τ q = X.τ q) ∧ Kept X X' := by
  let X' : Cx := { X with τ := fun q => if q = 0 then some (.arr n g ys) else X.τ q }
  have hτ0 : X'.τ 0 = some (.arr n g ys) := rfl
  have hτn : ∀ q, q ≠ 0 → X'.τ q = X.τ q := fun q hq => by show (if q = 0 then _ else _) = _; rw [if_neg hq]
  have hstep : ∀ r row, X.τ r = some row → ∃ row', X'.τ r = some row' ∧ RowStep row row' (X.L r) (X'.L r) := fun r row hr => by
    by_cases e : r = 0
    · subst e
      rw [h0] at hr
      cases hr
      exact ⟨_, hτ0, .same n g xs ys _ hl.symm⟩
    · exact ⟨row, by rw [hτn r e]; exact hr, RowStep.refl _ _⟩
  have hk : Kept X X' := ⟨fun _ _ h => h, fun _ _ h => h, fun _ _ _ => rfl, fun _ _ _ => rfl, hstep⟩
  have howns : ∀ r row', X'.τ r = some row' → ∃ row, X.τ r = some row ∧ (row'.owns (X'.L r) ↔ row.owns (X.L r)) := fun r row' hr => by
    by_cases e : r = 0
    · subst e
      rw [hτ0] at hr
      cases hr
      exact ⟨_, h0, Iff.rfl⟩
    · rw [hτn r e] at hr
      exact ⟨row', hr, Iff.rfl⟩
  have hown : ∀ b, Own X' b → Own X b := fun b ⟨r, row', e1, e2, e3⟩ => by
    obtain ⟨row, k1, k2⟩ := howns r row' e1
    exact ⟨r, row, k1, k2.1 e2, e3⟩
  refine ⟨X', rfl, ⟨rfl, rfl, rfl, Nat.le_refl _, fun _ _ _ => rfl, fun b hb => .inl (hown b hb), fun _ _ h => h, fun _ _ h => h, fun _ _ h => .inl h, fun _ _ h => .inl h, hstep, fun _ => Nat.le_refl _⟩,
    ⟨fun r row hr => ?_, fun r r' row row' e1 e2 e3 e4 e5 => ?_, fun b o ht ho => hX.sep b o ht (hown b ho), hX.sub, hX.live, hX.glob⟩, hτ0, hτn, hk⟩
  · by_cases e : r = 0
    · subst e
      rw [hτ0] at hr
      cases hr
      obtain ⟨k1, k2, k3, k4⟩ := hX.rows 0 _ h0
      have hx : ∀ (i : Nat) y, ys[i]? = some y → ∃ x, xs[i]? = some x ∧ WkSL x y := fun i y hy => by
        have hi : i < xs.length := by rw [hl]; exact (List.getElem?_eq_some_iff.1 hy).1
        exact ⟨xs[i], List.getElem?_eq_getElem hi, hw i _ _ (List.getElem?_eq_getElem hi) hy⟩
      refine ⟨k1, fun cs hcs => ?_, by rw [← hl]; exact k3, fun hc => ?_⟩
      · obtain ⟨i, hi⟩ := List.getElem?_of_mem hcs
        obtain ⟨x, m1, m2⟩ := hx i cs hi
        rw [← m2.1]
        exact k2 x (List.mem_of_getElem? m1)
      · obtain ⟨c, e, m1, m2, m3⟩ := k4 hc
        refine ⟨c, e, m1, m2, fun i cs hi j v hj => ?_⟩
        obtain ⟨x, n1, n2⟩ := hx i cs hi
        have hj' : j < x.length := by rw [n2.1]; exact (List.getElem?_eq_some_iff.1 hj).1
        exact (n2.2 j _ _ (List.getElem?_eq_getElem hj') hj).wk _ _ _ (m3 i x n1 j _ (List.getElem?_eq_getElem hj'))
    · rw [hτn r e] at hr
      exact (hX.rows r row hr).kept hk rfl fun _ => rfl
  · obtain ⟨a1, a2, a3⟩ := howns r row e1
    obtain ⟨b1, b2, b3⟩ := howns r' row' e2
    exact hX.inj r r' a1 b1 a2 b2 (a3.1 e3) (b3.1 e4) e5

theorem CallSem.row0 {P : Program} {f : FuncId} {args : List D} {σ σ' : Sto} {d : D} {n g : Nat} {xs ys : List (List V)} (h : CallSem P f args (.arr n g ys :: σ) d σ') (hl : xs.length = ys.length) (hw : ∀ (i : Nat) x y, xs[i]? = some x → ys[i]? = some y → WkSL x y) :
    CallSem P f args (.arr n g xs :: σ) d σ' :=
  ⟨h.1, fun X us h1 h2 h3 h4 => by
    obtain ⟨X', e1, e2, e3, e4, e5, e6⟩ := row0_wk h1 (by rw [h2]; rfl) hl hw
    have := h.2 X' us e3 (fun q => by
      cases q with
      | zero => exact e4
      | succ q => rw [e5 _ (by omega), h2]; rfl) h3 (DRs.kept e6 h4)
    rw [e1] at this
    refine RunG.mono this fun e w' hh => ?_
    obtain ⟨v, k1, X'', k2, k3, k4⟩ := hh
    exact ⟨v, k1, X'', k2, e2.trans k3, k4⟩⟩
end Go.Ab
namespace Go.Ab
open Go Go.Sp

/-- A slice that is the whole of the one row there is. -/
def rowD {α : Type} (k : Nat) (dec : List V → Option α) (d : D) (σ : Sto) : Option (Nat × List α) :=
  match d, σ with
  | .rs 0 g m 0 n, [.arr m' g' xs] => bif Nat.beq m k && Nat.beq m' k && Nat.beq g g' && Nat.beq n xs.length then (decL dec xs).bind fun l => some (g, l) else none
  | _, _ => none
theorem rowD_map {α : Type} {k : Nat} {dec : List V → Option α} {enc : α → List V} (h : ∀ x, dec (enc x) = some x) (g n : Nat) (l : List α) (hn : n = l.length) : rowD k dec (.rs 0 g k 0 n) [.arr k g (l.map enc)] = some (g, l) := by
  subst hn
  have hb : ∀ a : Nat, Nat.beq a a = true := fun a => Nat.beq_refl a
  simp only [rowD, hb, List.length_map, Bool.and_self, cond_true, decL_map h, Option.bind_some]
theorem rowD_some [Globs] {α : Type} {k : Nat} {dec : List V → Option α} {d : D} {σ : Sto} {g : Nat} {l : List α} (h : rowD k dec d σ = some (g, l)) : ∃ xs, d = .rs 0 g k 0 l.length ∧ σ = [.arr k g xs] ∧ decL dec xs = some l := by
  unfold rowD at h
  split at h
  · rename_i g1 m n m' g' xs
    obtain ⟨h1, h2⟩ := bif_some h
    simp only [Bool.and_eq_true] at h1
    obtain ⟨⟨⟨a1, a2⟩, a3⟩, a4⟩ := h1
    have a1 := Nat.eq_of_beq_eq_true a1
    have a2 := Nat.eq_of_beq_eq_true a2
    have a3 := Nat.eq_of_beq_eq_true a3
    have a4 := Nat.eq_of_beq_eq_true a4
    subst a1 a2 a3
    simp only [Option.bind_eq_some_iff, Option.some.injEq, Prod.mk.injEq] at h2
    obtain ⟨l', h3, h4, h5⟩ := h2
    subst h4 h5
    have hl : xs.length = l'.length := (decL_inv (enc := fun _ => []) (fun _ _ => True) (fun _ _ _ => trivial) h3).1
    exact ⟨xs, by rw [a4, hl], rfl, h3⟩
  · cases h

def WkSto (σ σ0 : Sto) : Prop := σ = σ0 ∨ ∃ n g xs ys rest, σ = .arr n g xs :: rest ∧ σ0 = .arr n g ys :: rest ∧ xs.length = ys.length ∧ ∀ (i : Nat) x y, xs[i]? = some x → ys[i]? = some y → WkSL x y
variable [Globs]
theorem rowD_wk {α : Type} {k : Nat} {dec : List V → Option α} {enc : α → List V} (hd : ∀ x y, dec x = some y → WkSL x (enc y)) {d : D} {σ : Sto} {g : Nat} {l : List α} (h : rowD k dec d σ = some (g, l)) : d = .rs 0 g k 0 l.length ∧ WkSto σ [.arr k g (l.map enc)] := by
  obtain ⟨xs, h1, h2, h3⟩ := rowD_some h
  obtain ⟨k1, k2⟩ := decL_inv (enc := enc) WkSL hd h3
  refine ⟨h1, .inr ⟨k, g, xs, l.map enc, [], h2, rfl, by simp [k1], fun i x y hx hy => ?_⟩⟩
  rw [List.getElem?_map, Option.map_eq_some_iff] at hy
  obtain ⟨z, hz, rfl⟩ := hy
  exact k2 i x z hx hz

theorem CallSem.wkSto {P : Program} {f : FuncId} {args : List D} {σ σ0 σ' : Sto} {d : D} (h : CallSem P f args σ0 d σ') (hw : WkSto σ σ0) : CallSem P f args σ d σ' := by
  rcases hw with rfl | ⟨n, g, xs, ys, rest, rfl, rfl, h1, h2⟩
  · exact h
  · exact h.row0 h1 h2

theorem CallSem.of_ev {M : Mode} {c : CallerK} (hm : M.P.follows .mixedOrders = true) (hc : CallerKOk M.P c) {f : FuncId} (hok : FnOk M.P f) (hf : f ≠ yid) {args : List D} {σ σ' : Sto} {d : D} (h : evBody M c lpC f args σ = some (d, σ')) : CallSem M.P f args σ d σ' := by
  obtain ⟨k1, k2⟩ := evBody_ok hc hm lpC_ok hok h
  refine ⟨fun _ => k1, fun X us h1 h2 h3 h4 => ?_⟩
  unfold RunG
  rw [if_neg hf]
  exact k2 X us h1 h2 h3 h4

/-- A summary from the evaluation at arguments and rows in canonical form. -/
theorem SumFOk.of_canR {M : Mode} {c : CallerK} (hm : M.P.follows .mixedOrders = true) (hc : CallerKOk M.P c) {f : FuncId} {s : SumF} (hok : FnOk M.P f) (hf : f ≠ yid)
    (hs : ∀ args σ (R : Type) (K : D → Sto → Option R) r, s args σ K = some r → ∃ args0 σ0 d d' σ', WkDs args args0 ∧ WkSto σ σ0 ∧ evBody M c lpC f args0 σ0 = some (d, σ') ∧ Wk d d' ∧ K d' σ' = some r) : SumFOk M.P f s := fun args σ R K r hr => by
  obtain ⟨args0, σ0, d, d', σ', ha, hw, h0, hwk, hK⟩ := hs args σ R K r hr
  exact ⟨d', σ', hK, (((CallSem.of_ev hm hc hok hf h0).wk hwk).wkSto hw).args ha⟩
end Go.Ab
