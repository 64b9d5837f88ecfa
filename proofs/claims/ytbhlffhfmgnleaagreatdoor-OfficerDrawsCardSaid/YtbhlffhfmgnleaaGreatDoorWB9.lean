/- sync.Once.Do at a Replacer that has not been used; a fact's line; a page's text. -/
import Derived.Test.YtbhlffhfmgnleaaGreatDoorWB8
import Derived.Test.YtbhlffhfmgnleaaGreatDoorWB7
import Derived.Tactics
import Derived.Tactics2
import Derived.Defers
import Derived.Laws.Pointers
import Derived.Laws.LoneSync
import Derived.RegionTactic
import Derived.RegionCalls
import Derived.ChangeAlike
set_option linter.all false
namespace Go.Ab
open Go Go.Proofs
/-- What the Once calls. -/
noncomputable def evR : CallerK := evT MA [] [163, 182] 40
noncomputable def s162 : SumF := fun args σ _ K =>
  match args, σ with
  | [.ptr 0 0, .clo 163 [.ptr 0 0] []], .box 251 (.v (.int .u32 0) :: .v (.int .i32 0) :: rest) :: others =>
    evR 163 [.ptr 0 0] (.box 251 (.v (.int .u32 0) :: .v (.int .i32 1) :: rest) :: others) fun _ σ' =>
      match σ' with
      | .box 251 (.v (.int .u32 0) :: .v (.int .i32 1) :: rest') :: others' => K (.tup []) (.box 251 (.v (.int .u32 1) :: .v (.int .i32 0) :: rest') :: others')
      | _ => none
  | _, _ => none
noncomputable def sumsP : List (FuncId × SumF) := [(17, s17), (144, s144), (162, s162)]
def inlP : List FuncId := [67, 102, 33, 60, 103, 104, 105, 106, 135, 118, 145, 146, 370]
noncomputable def evP : CallerK := evT MA sumsP inlP 50
/-- A fact's cells, two of which are slices. -/
def slV : V → Bool
  | .nils => true
  | .sl _ _ => true
  | _ => false
def factV : List V → Bool
  | [.int .i64 _, .int .i64 _, .int .i64 _, .int .i64 _, a, b] => slV a && slV b
  | _ => false
noncomputable def prints {R : Type} : List (List V) → (List (List UInt8) → Option R) → Option R
  | [], k => k []
  | x :: xs, k => bif factV x then evP 118 [.agg (x.map ofV)] [] fun d σ =>
      match d, σ with
      | .tup [.v (.str p), .v (.int .i64 0)], [] => prints xs fun ps => k (bytesL p :: ps)
      | _, _ => none
    else none
def textB (day : Int) (n : Nat) (ps : List (List UInt8)) : List UInt8 := textL ⟨⟨itoaL day⟩⟩ ⟨⟨itoaL n⟩⟩ (ps.map fun l => ⟨⟨l⟩⟩)
noncomputable def s76 : SumF := fun args σ _ K =>
  match args, σ with
  | [.agg [.v (.int .i64 day), fd, .v (.str _)]], [] => (slOf 6 fd).bind fun q =>
    bif !isNil q.2 && decide (q.2.length < 1000000) && decide (-9223372036854775808 ≤ day) && decide (day ≤ 9223372036854775807) then
      prints q.2 fun ps => bif decide ((textB day q.2.length ps).length ≤ 140737488355328) then fBytes (textB day q.2.length ps) fun l => K (strD l) [] else none
    else none
  | _, _ => none
noncomputable def sumsB : List (FuncId × SumF) := [(17, s17), (18, s18), (75, s75), (76, s76), (12, clM 1 8), (107, clM 1 16), (171, clM 5 40), (172, clM 5 40), (173, clM 4 32), (283, clM 4 48), (284, clM 2 16), (285, clM 5 64)]
end Go.Ab

/- sync.Once's slow road, the lock free: the parts. (Turned from the kit's worked example of sync.Once.) -/
namespace Go.Proofs

theorem disable (w : World) : (callFunc 247 #[]).run Tryz.prog w = .ok (.value (.tuple #[])) w := run_call_mark0 Tryz.func247 (by kernel_rfl) (by kernel_rfl) (by kernel_rfl) .disable (by kernel_rfl) w
theorem enable (w : World) : (callFunc 249 #[]).run Tryz.prog w = .ok (.value (.tuple #[])) w := run_call_mark0 Tryz.func249 (by kernel_rfl) (by kernel_rfl) (by kernel_rfl) .enable (by kernel_rfl) w
theorem acquire (a : Addr) (w : World) : (callFunc 250 #[.pointer (some a)]).run Tryz.prog w = .ok (.value (.tuple #[])) w := run_call_marked Tryz.func250 (by kernel_rfl) (by kernel_rfl) (by kernel_rfl) .acquire (by kernel_rfl) a w
theorem releaseMerge (a : Addr) (w : World) : (callFunc 252 #[.pointer (some a)]).run Tryz.prog w = .ok (.value (.tuple #[])) w := run_call_marked Tryz.func252 (by kernel_rfl) (by kernel_rfl) (by kernel_rfl) .releaseMerge (by kernel_rfl) a w

theorem store_deferred (a : Addr) (x : Value) (u : FrameMode) (w : World) (hc : w.cell? a = some x) (hz : w.frozen? a = false) :
    CallsD Tryz.prog 216 #[.pointer (some a), .bool true] u w fun e u' w' => u' = u ∧ (e = .returned (.tuple #[]) ∧ w' = w.drew.setCell a (.int .u32 1)) := by
  have hc' : w.drew.cell? a = some x := by go_simp
  have hz' : w.drew.frozen? a = false := by go_simp
  have hst := run_call_store (P := Tryz.prog) Tryz.func234 (by kernel_rfl) (by kernel_rfl) (by kernel_rfl) (by kernel_rfl) (k := .u32) (y := 1) hc' hz'
  go_enter_d Tryz.func216, Tryz.ntmps216
  go_wp2
  go_region_calls
  all_goals (go_end0; exact ⟨rfl, rfl⟩)

set_option maxRecDepth 100000 in
theorem unlock_deferred (a : Addr) (u : FrameMode) (w : World) (hc : w.cell? a = some (.int .i32 1)) (hz : w.frozen? a = false) :
    CallsD Tryz.prog 215 #[.pointer (some a)] u w fun e u' w' => u' = u ∧ (e = .returned (.tuple #[]) ∧ w' = w.setCell a (.int .i32 0)) := by
  have hd := disable
  have he := enable
  have hr := releaseMerge
  have hadd := run_call_add (P := Tryz.prog) Tryz.func253 (by kernel_rfl) (by kernel_rfl) (by kernel_rfl) .i32 (by kernel_rfl) (y := -1) (s := 0) hc hz (by simp [go_sem]; rfl)
  have hcv := run_convert_to_unsafe (P := Tryz.prog) (src := 342) (dst := 234) Tryz.underlying342 Tryz.underlying234 (by kernel_rfl) hc
  go_enter_d Tryz.func215, Tryz.ntmps215
  go_wp2
  go_end0
  go_wp2
  go_end0
  exact ⟨rfl, rfl⟩

set_option maxRecDepth 100000 in
theorem lock_free (a : Addr) (w : World) (hc : w.cell? a = some (.int .i32 0)) (hz : w.frozen? a = false) :
    Calls Tryz.prog 214 #[.pointer (some a)] w fun e w' => e = .returned (.tuple #[]) ∧ w' = w.setCell a (.int .i32 1) := by
  have hd := disable
  have he := enable
  have ha := acquire
  have hcas := run_call_cas_hit (P := Tryz.prog) Tryz.func248 (by kernel_rfl) (by kernel_rfl) (by kernel_rfl) .i32 (by kernel_rfl) (y := 1) hc hz
  have hc' : (w.setCell a (.int .i32 1)).cell? a = some (.int .i32 1) := World.cell?_setCell_same w a _ hc
  have hcv := run_convert_to_unsafe (P := Tryz.prog) (src := 342) (dst := 234) Tryz.underlying342 Tryz.underlying234 (by kernel_rfl) hc'
  go_enter Tryz.func214, Tryz.ntmps214
  go_wp2
  first | go_end0 | (simp only [Exit.inBlock, Exit.then]; refine bodyPost_ret (results_none rfl _ _ _) rfl ?_) | refine bodyPost_ret (results_none rfl _ _ _) rfl ?_
  go_wp2
  go_end0
  exact ⟨rfl, rfl⟩
end Go.Proofs

/- sync.Once's slow road, not yet done and the lock free, over what the function does; Do. -/
namespace Go.Proofs

set_option maxRecDepth 100000 in
set_option maxHeartbeats 1600000 in
theorem slow_any (b : Nat) (w : World) (G : World → Prop)
    (h0 : w.cell? ⟨b, 0, none⟩ = some (.int .u32 0)) (h1 : w.cell? ⟨b, 1, none⟩ = some (.int .i32 0)) (f0 : w.frozen? ⟨b, 0, none⟩ = false) (f1 : w.frozen? ⟨b, 1, none⟩ = false)
    (hF : Calls Tryz.prog 163 #[.pointer (some ⟨b, 0, none⟩)] (w.setCell ⟨b, 1, none⟩ (.int .i32 1)) fun e w' => (∃ v, e = .returned v) ∧
      w'.cell? ⟨b, 0, none⟩ = some (.int .u32 0) ∧ w'.cell? ⟨b, 1, none⟩ = some (.int .i32 1) ∧ w'.frozen? ⟨b, 0, none⟩ = false ∧ w'.frozen? ⟨b, 1, none⟩ = false ∧ G w') :
    Calls Tryz.prog 181 #[.pointer (some ⟨b, 0, none⟩), .func (.func 163) #[.pointer (some ⟨b, 0, none⟩)] #[]] w fun e w' => e = .returned (.tuple #[]) ∧
      ∃ w2, G w2 ∧ w2.cell? ⟨b, 0, none⟩ = some (.int .u32 0) ∧ w2.cell? ⟨b, 1, none⟩ = some (.int .i32 1) ∧ w' = (w2.drew.setCell ⟨b, 0, none⟩ (.int .u32 1)).setCell ⟨b, 1, none⟩ (.int .i32 0) := by
  have hl := run_call_load (P := Tryz.prog) Tryz.func213 (by kernel_rfl) (by kernel_rfl) (by kernel_rfl) .u32 (by kernel_rfl) (w := w.setCell ⟨b, 1, none⟩ (.int .i32 1)) (a := ⟨b, 0, none⟩) (x := 0) ((World.cell?_setCell_other _ ⟨b, 1, none⟩ ⟨b, 0, none⟩ _ (by simp)).trans h0)
  have hnot : ∀ (x : Bool) (w : World), (Op.unary .not (.bool x)).run Tryz.prog w = .ok (.bool (!x)) w := fun _ _ => rfl
  go_enter_defers Tryz.func181, Tryz.ntmps181
  go_wp2_with (first
    | (go_at_call 214; refine (lock_free ⟨b, 1, none⟩ _ (by go_simp) (by go_simp)).mono ?_; rintro e w' ⟨rfl, rfl⟩)
    | (go_at_call 163; refine hF.mono ?_; rintro e w2 ⟨⟨v, rfl⟩, k0, k1, z0, z1, hG⟩)
    | go_in)
  simp only [bodyPostD]
  refine leaves_cons (f := 216) (args := #[.pointer (some ⟨b, 0, none⟩), .bool true]) (by simp) (by simp [go_sem]) ?_
  refine (store_deferred ⟨b, 0, none⟩ (.int .u32 0) .returning _ (by simpa using k0) (by simpa using z0)).mono ?_
  rintro e u' w'' ⟨rfl, rfl, rfl⟩
  refine leaves_cons (f := 215) (args := #[.pointer (some ⟨b, 1, none⟩)]) (by simp [settle]) (by simp [go_sem]) ?_
  refine (unlock_deferred ⟨b, 1, none⟩ _ _ ?_ (by simp [z1])).mono ?_
  · refine (World.cell?_setCell_other _ ⟨b, 0, none⟩ ⟨b, 1, none⟩ _ (by simp)).trans ?_
    rw [World.cell?_drew]
    exact k1
  rintro e u' w'' ⟨rfl, rfl, rfl⟩
  have hG' := hG
  simp [Leaves, settle, results, Tryz.results181]
  exact ⟨w2, hG', k0, k1, rfl⟩

set_option maxRecDepth 100000 in
set_option maxHeartbeats 1600000 in
theorem do_first (b : Nat) (w : World) (G : World → Prop)
    (h0 : w.cell? ⟨b, 0, none⟩ = some (.int .u32 0)) (h1 : w.cell? ⟨b, 1, none⟩ = some (.int .i32 0)) (f0 : w.frozen? ⟨b, 0, none⟩ = false) (f1 : w.frozen? ⟨b, 1, none⟩ = false)
    (hF : Calls Tryz.prog 163 #[.pointer (some ⟨b, 0, none⟩)] (w.setCell ⟨b, 1, none⟩ (.int .i32 1)) fun e w' => (∃ v, e = .returned v) ∧
      w'.cell? ⟨b, 0, none⟩ = some (.int .u32 0) ∧ w'.cell? ⟨b, 1, none⟩ = some (.int .i32 1) ∧ w'.frozen? ⟨b, 0, none⟩ = false ∧ w'.frozen? ⟨b, 1, none⟩ = false ∧ G w') :
    Calls Tryz.prog 162 #[.pointer (some ⟨b, 0, none⟩), .func (.func 163) #[.pointer (some ⟨b, 0, none⟩)] #[]] w fun e w' => e = .returned (.tuple #[]) ∧
      ∃ w2, G w2 ∧ w2.cell? ⟨b, 0, none⟩ = some (.int .u32 0) ∧ w2.cell? ⟨b, 1, none⟩ = some (.int .i32 1) ∧ w' = (w2.drew.setCell ⟨b, 0, none⟩ (.int .u32 1)).setCell ⟨b, 1, none⟩ (.int .i32 0) := by
  have hl := run_call_load (P := Tryz.prog) Tryz.func213 (by kernel_rfl) (by kernel_rfl) (by kernel_rfl) .u32 (by kernel_rfl) h0
  have hnot : ∀ (x : Bool) (w : World), (Op.unary .not (.bool x)).run Tryz.prog w = .ok (.bool (!x)) w := fun _ _ => rfl
  go_enter Tryz.func162, Tryz.ntmps162
  go_wp2_with (first | (go_at_call 181; refine (slow_any b _ G h0 h1 f0 f1 hF).mono ?_; rintro e w' ⟨rfl, hh⟩) | go_in)
  go_end0
  exact ⟨rfl, hh⟩
end Go.Proofs

/- sync.Once.Do at a Replacer: its summary is right. -/
namespace Go.Ab
open Go Go.Proofs

theorem box_touch {X : Cx} (hX : StoR X) {r : Nat} {cs cs' : List D} {e : TypeId} (hr : X.τ r = some (.box e cs)) {w' : World} (ht : Touched X.w w' (X.L r).block) {c' : Array Value}
    (h5 : w'.heap[(X.L r).block]? = some (.cells c' e (0, 0))) (hsz : c'.size = cs'.length) (h1 : OneC (fun j => c'.getD j undef) c'.size) (hd : DRs X cs' (fun j => c'.getD j undef)) :
    Ext X (X.turn w' r (.box e cs')) ∧ StoR (X.turn w' r (.box e cs')) := by
  have he : Ext X (X.turn w' r (.box e cs')) := turn_ext (row := .box e cs) ht hr trivial trivial (.box _ _ _ _)
  exact ⟨he, turn_sto (row := .box e cs) hX ht hr trivial trivial (.box _ _ _ _) ⟨c', h5, hsz, h1, DRs.ext hX he hd⟩⟩

theorem Touched.drew (w : World) (b : Nat) : Touched w w.drew b := ⟨fun _ _ => rfl, rfl, rfl, rfl, rfl, Nat.le_succ _⟩
theorem frozen_row {w : World} {g j : Nat} {cs : Array Value} {t : TypeId} (hg : w.heap[g]? = some (.cells cs t (0, 0))) : w.frozen? ⟨g, j, none⟩ = false := by
  simp [World.frozen?, hg]

/-- The two cells of a box that hold the Once's state are written. -/
theorem box_set {X : Cx} (hX : StoR X) {d0 d1 : D} {cs : List D} (hr : X.τ 0 = some (.box 251 (d0 :: d1 :: cs))) {w' : World} (ht : Touched X.w w' (X.L 0).block) {c : Array Value} {k0 k1 : IntKind} {n0 n1 : Int}
    (hh : X.w.heap[(X.L 0).block]? = some (.cells c 251 (0, 0))) (h5 : w'.heap[(X.L 0).block]? = some (.cells ((c.setIfInBounds 0 (.int k0 n0)).setIfInBounds 1 (.int k1 n1)) 251 (0, 0))) :
    Ext X (X.turn w' 0 (.box 251 (.v (.int k0 n0) :: .v (.int k1 n1) :: cs))) ∧ StoR (X.turn w' 0 (.box 251 (.v (.int k0 n0) :: .v (.int k1 n1) :: cs))) := by
  obtain ⟨c2, g1, g2, g3, g4⟩ := hX.rows 0 _ hr
  rw [hh] at g1
  cases g1
  simp only [List.length_cons] at g2
  have gd : ∀ j, ((c.setIfInBounds 0 (Value.int k0 n0)).setIfInBounds 1 (Value.int k1 n1)).getD j undef = if j = 0 then .int k0 n0 else if j = 1 then .int k1 n1 else c.getD j undef := fun j => by
    have hs : 2 ≤ c.size := by omega
    simp only [Array.getD_eq_getD_getElem?, Array.getElem?_setIfInBounds, Array.size_setIfInBounds]
    rcases j with _ | _ | j
    · simp [show 0 < c.size by omega]
    · simp [show 1 < c.size by omega]
    · simp
  refine box_touch hX hr ht h5 (by simp [g2]) (fun j hj => ?_) ?_
  · show (Array.getD _ j undef).oneCell' = true
    rw [gd]
    split
    · rfl
    · split
      · rfl
      · exact g3 j (by simpa using hj)
  · simp only [DRs] at g4 ⊢
    refine ⟨?_, ?_, ?_⟩
    · rw [gd]; simp only [DR]; exact .int _ _
    · rw [gd]; simp only [DR]; exact .int _ _
    · have h4 := g4.2.2
      rw [DRs_iff] at h4 ⊢
      intro j d hj
      have := h4 j d hj
      rw [gd, if_neg (by omega), if_neg (by omega)]
      exact this

set_option maxRecDepth 100000 in
theorem evR_ok : CallerKOk PO evR := evT_ok (M := MA) mo_mixed sums0 (inlsC (by kernel_rfl) (inlsC (by kernel_rfl) inls0)) 40
set_option maxRecDepth 100000 in
theorem o162 : SumFOk PO 162 s162 := fun args σ R K r hr => by
  unfold s162 at hr
  split at hr
  · rename_i rest others
    obtain ⟨d, σ', h1, h2⟩ := evR_ok _ _ _ _ _ _ hr
    split at h1
    · rename_i rest' others'
      refine ⟨_, _, h1, fun _ => enters_ab Tryz.func162 (by kernel_rfl) rfl, fun X us hX hτ hsz hd => ?_⟩
      unfold RunG
      rw [if_neg (by decide)]
      rw [arrTwo hsz]
      simp only [DRs] at hd
      obtain ⟨hd0, hd1, _⟩ := hd
      generalize us.getD 0 undef = u0 at hd0 ⊢
      generalize us.getD 1 undef = u1 at hd1 ⊢
      simp only [DR] at hd0
      obtain ⟨rfl, _⟩ := hd0
      simp only [DR] at hd1
      obtain ⟨xs, ys, rfl, hxs, hys, hx, _⟩ := hd1
      have hr0 : X.τ 0 = some (.box 251 (.v (.int .u32 0) :: .v (.int .i32 0) :: rest)) := hτ 0
      obtain ⟨c, g1, g2, g3, g4⟩ := hX.rows 0 _ hr0
      simp only [List.length_cons] at g2
      simp only [DRs, DR] at g4
      obtain ⟨q0, q1, q2⟩ := g4
      have e0 : c.getD 0 undef = .int .u32 0 := by
        generalize c.getD 0 undef = z at q0
        cases q0; rfl
      have e1 : c.getD 1 undef = .int .i32 0 := by
        generalize c.getD (0 + 1) undef = z at q1
        cases q1; rfl
      have hb : (X.L 0).block = (X.L 0).block := rfl
      generalize hbk : (X.L 0).block = b at g1
      obtain rfl : xs = #[.pointer (some ⟨b, 0, none⟩)] := by
        have hxs1 : xs.size = 1 := hxs
        rw [arr1 hxs1]
        simp only [DRs, DR] at hx
        rw [hx.1.1, hbk]
      obtain rfl : ys = #[] := by
        have : ys.size = 0 := hys
        exact Array.eq_empty_of_size_eq_zero this
      have c0 : X.w.cell? ⟨b, 0, none⟩ = some (.int .u32 0) := by
        rw [cell_of_row _ _ _ _ _ _ g1, ← e0]
        simp [Array.getD_eq_getD_getElem?, show 0 < c.size by omega]
      have c1 : X.w.cell? ⟨b, 1, none⟩ = some (.int .i32 0) := by
        rw [cell_of_row _ _ _ _ _ _ g1, ← e1]
        simp [Array.getD_eq_getD_getElem?, show 1 < c.size by omega]
      -- the lock is taken
      have ht1 := Touched.setCell X.w b 1 (.int .i32 1)
      have hc1 : c.setIfInBounds 1 (.int .i32 1) = (c.setIfInBounds 0 (.int .u32 0)).setIfInBounds 1 (.int .i32 1) := by
        congr 1
        apply Array.ext
        · simp
        · intro j h1 h2
          rw [Array.getElem_setIfInBounds]
          split
          · rename_i hj
            subst hj
            have := e0
            simp [Array.getD_eq_getD_getElem?, show 0 < c.size by omega] at this
            exact this
          · rfl
      have hh1 : (X.w.setCell (at_ b 1) (.int .i32 1)).heap[b]? = some (.cells ((c.setIfInBounds 0 (.int .u32 0)).setIfInBounds 1 (.int .i32 1)) 251 (0, 0)) := by
        rw [← hc1]
        exact heap_setCell_same X.w b 1 c 251 _ g1
      obtain ⟨he1, hs1⟩ := box_set hX hr0 (w' := X.w.setCell (at_ b 1) (.int .i32 1)) (by rw [hbk]; exact ht1) (by rw [hbk]; exact g1) (by rw [hbk]; exact hh1)
      have hτ1 : ∀ q, (X.turn (X.w.setCell (at_ b 1) (.int .i32 1)) 0 (.box 251 (.v (.int .u32 0) :: .v (.int .i32 1) :: rest))).τ q = (Row.box 251 (.v (.int .u32 0) :: .v (.int .i32 1) :: rest) :: others)[q]? := fun q => by
        show upd1 X.τ 0 _ q = _
        rcases q with _ | q
        · rw [upd1_same]; rfl
        · rw [upd1_ne _ _ (by omega), hτ]; rfl
      have hτ10 : (X.turn (X.w.setCell (at_ b 1) (.int .i32 1)) 0 (.box 251 (.v (.int .u32 0) :: .v (.int .i32 1) :: rest))).τ 0 = some (.box 251 (.v (.int .u32 0) :: .v (.int .i32 1) :: rest)) := hτ1 0
      have hcall := h2.2 _ #[.pointer (some ⟨b, 0, none⟩)] hs1 hτ1 rfl (by
        simp only [DRs, DR]
        refine ⟨⟨?_, _, hτ10, trivial⟩, trivial⟩
        show _ = Value.pointer (some (at_ (X.L 0).block 0))
        rw [hbk]; rfl)
      unfold RunG at hcall
      rw [if_neg (by decide)] at hcall
      have hgoal := do_first b X.w (fun w2 => ∃ X2, X2.w = w2 ∧ Ext (X.turn (X.w.setCell (at_ b 1) (.int .i32 1)) 0 (.box 251 (.v (.int .u32 0) :: .v (.int .i32 1) :: rest))) X2 ∧ StoR X2 ∧ ∀ q, X2.τ q = (Row.box 251 (.v (.int .u32 0) :: .v (.int .i32 1) :: rest') :: others')[q]?)
        c0 c1 (frozen_row g1) (frozen_row g1) (hcall.mono fun e w' hh => by
          obtain ⟨v, rfl, X2, rfl, k1, k2, k3, _⟩ := hh
          have hL : (X2.L 0).block = b := by
            obtain ⟨row', m1, m2⟩ := k1.refs 0 _ hτ10
            rw [← hbk]
            generalize hx2 : X2.L 0 = l2 at m2
            have : X.L 0 = l2 := by
              rw [k3 0] at m1
              cases m1
              show X.L 0 = l2
              cases m2
              rfl
            rw [this]
          have k30 : X2.τ 0 = some (.box 251 (.v (.int .u32 0) :: .v (.int .i32 1) :: rest')) := k3 0
          obtain ⟨c2, n1, n2, n3, n4⟩ := k2.rows 0 _ k30
          rw [hL] at n1
          simp only [List.length_cons] at n2
          simp only [DRs, DR] at n4
          obtain ⟨p0, p1, _⟩ := n4
          have f0 : c2.getD 0 undef = .int .u32 0 := by
            generalize c2.getD 0 undef = z at p0
            cases p0; rfl
          have f1 : c2.getD 1 undef = .int .i32 1 := by
            generalize c2.getD (0 + 1) undef = z at p1
            cases p1; rfl
          refine ⟨⟨v, rfl⟩, ?_, ?_, frozen_row n1, frozen_row n1, X2, rfl, k1, k2, k3⟩
          · rw [cell_of_row _ _ _ _ _ _ n1, ← f0]
            simp [Array.getD_eq_getD_getElem?, show 0 < c2.size by omega]
          · rw [cell_of_row _ _ _ _ _ _ n1, ← f1]
            simp [Array.getD_eq_getD_getElem?, show 1 < c2.size by omega])
      refine hgoal.mono fun e w' hh => ?_
      obtain ⟨rfl, w2, ⟨X2, rfl, k1, k2, k3⟩, _, _, rfl⟩ := hh
      have hL : (X2.L 0).block = b := by
        obtain ⟨row', m1, m2⟩ := k1.refs 0 _ hτ10
        rw [← hbk]
        generalize hx2 : X2.L 0 = l2 at m2
        have : X.L 0 = l2 := by
          rw [k3 0] at m1
          cases m1
          show X.L 0 = l2
          cases m2
          rfl
        rw [this]
      have k30 : X2.τ 0 = some (.box 251 (.v (.int .u32 0) :: .v (.int .i32 1) :: rest')) := k3 0
      obtain ⟨c2, n1, n2, n3, n4⟩ := k2.rows 0 _ k30
      rw [hL] at n1
      have ht2 : Touched X2.w ((X2.w.drew.setCell (at_ b 0) (.int .u32 1)).setCell (at_ b 1) (.int .i32 0)) b :=
        ((Touched.drew X2.w b).trans (Touched.setCell _ b 0 _)).trans (Touched.setCell _ b 1 _)
      have hh2 : ((X2.w.drew.setCell (at_ b 0) (.int .u32 1)).setCell (at_ b 1) (.int .i32 0)).heap[b]? = some (.cells ((c2.setIfInBounds 0 (.int .u32 1)).setIfInBounds 1 (.int .i32 0)) 251 (0, 0)) :=
        heap_setCell_same _ b 1 _ 251 _ (heap_setCell_same X2.w.drew b 0 c2 251 _ n1)
      obtain ⟨he2, hs2⟩ := box_set k2 k30 (by rw [hL]; exact ht2) (by rw [hL]; exact n1) (by rw [hL]; exact hh2)
      refine ⟨_, rfl, _, rfl, (he1.trans k1).trans he2, hs2, fun q => ?_, ?_⟩
      · show upd1 X2.τ 0 _ q = _
        rcases q with _ | q
        · rw [upd1_same]; rfl
        · rw [upd1_ne _ _ (by omega), k3]; rfl
      · simp only [DR]
        exact ⟨#[], rfl, rfl, trivial⟩
    · cases h1
  · cases hr
end Go.Ab

/- book.text's summary is right. -/
namespace Go.Ab
open Go Go.Proofs

/-- What a function without rows comes to, as the walks say it. -/
theorem Pf_of {X : Cx} (hX : StoR X) (hn : ∀ q, X.τ q = none) {f : FuncId} (hf : f ≠ yid) {args : List D} {d : D} (h : CallSem PO f args [] d []) {us : Array Value} {u : Value}
    (hsz : us.size = args.length) (hd : DRs X args (fun j => us.getD j undef)) (hv : ∀ (X' : Cx) v, DR X' d v → v = u) : Pf X.w f us u := fun w' hb => by
  have hd0 : Globs.counts → X.w.drawn ≤ w'.drawn := fun c => c.elim
  have he := below_ext hb hd0
  have hs := below_sto hX hb hd0
  have hc := h.2 { X with w := w' } us hs (fun q => by show X.τ q = _; rw [hn]; simp) hsz (DRs.ext hX he hd)
  unfold RunG at hc
  rw [if_neg hf] at hc
  refine hc.mono fun e w'' hh => ?_
  obtain ⟨v, rfl, X2, rfl, k1, _, _, k4⟩ := hh
  refine ⟨by rw [hv X2 v k4], ⟨k1.os, k1.tape, k1.output, k1.size, fun b hb' => k1.blk b hb' ?_⟩⟩
  rintro ⟨r, row, h1, _⟩
  have : X.τ r = some row := h1
  rw [hn] at this
  cases this

set_option maxRecDepth 100000 in
theorem sumsP_ok : ∀ p ∈ sumsP, SumFOk PO p.1 p.2 := sumsC o17 (sumsC o144 (sumsC o162 sums0))
set_option maxRecDepth 100000 in
theorem inlP_ok : ∀ f ∈ inlP, FnOk PO f := by
  have h : inlP.all (fnOkB PO) = true := by kernel_rfl
  exact fun f hf => FnOk.of (List.all_eq_true.1 h f hf)
theorem evP_ok : CallerKOk PO evP := evT_ok (M := MA) mo_mixed sumsP_ok inlP_ok 50

theorem prints_ok {R : Type} : ∀ {xs : List (List V)} {k : List (List UInt8) → Option R} {r : R}, prints xs k = some r → ∃ ps, k ps = some r ∧ ps.length = xs.length ∧
    ∀ (i : Nat) x, xs[i]? = some x → factV x = true ∧ CallSem PO 118 [.agg (x.map ofV)] [] (.tup [.v (.str ⟨⟨ps.getD i []⟩⟩), .v (.int .i64 0)]) []
  | [], k, r, h => ⟨[], h, rfl, fun i x hx => by simp at hx⟩
  | x :: xs, k, r, h => by
    unfold prints at h
    obtain ⟨hf, h⟩ := bif_then h
    obtain ⟨d, σ', h1, h2⟩ := evP_ok _ _ _ _ _ _ h
    split at h1
    · rename_i p
      obtain ⟨ps, k1, k2, k3⟩ := prints_ok h1
      refine ⟨_, k1, by simp [k2], fun i y hy => ?_⟩
      cases i with
      | zero =>
        simp only [List.getElem?_cons_zero, Option.some.injEq] at hy
        subst hy
        exact ⟨hf, h2⟩
      | succ i => exact k3 i y (by simpa using hy)
    · cases h1

theorem itoa_call {n : Int} (h0 : -9223372036854775808 ≤ n) (h1 : n ≤ 9223372036854775807) : CallSem PO 17 [.v (.int .i64 n)] [] (strD (itoaL n)) [] := by
  have h : s17 [.v (.int .i64 n)] [] (fun d σ => some (d, σ)) = some (strD (itoaL n), []) := by
    unfold s17
    simp only [h0, h1, decide_true, Bool.and_self, cond_true]
    rw [fBytes_eq]
  obtain ⟨d, σ', k1, k2⟩ := o17 _ _ _ _ _ h
  cases k1
  exact k2
end Go.Ab
namespace Go.Ab
open Go Go.Proofs

def iOf : Value → Int
  | .int _ n => n
  | _ => 0
def aOf : Value → Option Addr
  | .slice a _ _ => a
  | _ => none
def lOf : Value → Nat
  | .slice _ l _ => l
  | _ => 0
def cOf : Value → Nat
  | .slice _ _ c => c
  | _ => 0
theorem vr_int {w : World} {S : Sup} {k : IntKind} {n : Int} {u : Value} (h : VR w S (.int k n) u) : u = .int k (iOf u) := by cases h; rfl
theorem vr_slice {w : World} {S : Sup} {v : V} {u : Value} (h : VR w S v u) (hv : slV v = true) : u = .slice (aOf u) (lOf u) (cOf u) := by
  cases v <;> first | cases hv | skip
  · cases h; rfl
  · obtain ⟨c, a, b, o, us, rfl, _⟩ := VR_sl.1 h
    rfl
theorem vr_one {w : World} {S : Sup} {v : V} {u : Value} (h : VR w S v u) : u.oneCell' = true := by
  cases v <;> (cases h; rfl)

set_option maxRecDepth 100000 in
theorem o76 : SumFOk PO 76 s76 := fun args σ R K r hr => by
  unfold s76 at hr
  split at hr
  · rename_i day fd dg
    simp only [Option.bind_eq_some_iff] at hr
    obtain ⟨⟨t, xs⟩, hsl, hr⟩ := hr
    dsimp only at hr
    obtain ⟨hc, hr⟩ := bif_then hr
    simp only [Bool.and_eq_true, decide_eq_true_eq] at hc
    obtain ⟨⟨⟨hc0, hc1⟩, hc2⟩, hc3⟩ := hc
    obtain ⟨ps, hr, hpl, hpr⟩ := prints_ok hr
    obtain ⟨hlen, hr⟩ := bif_then hr
    simp only [decide_eq_true_eq] at hlen
    rw [fBytes_eq] at hr
    refine ⟨_, _, hr, fun _ => enters_ab Tryz.func76 (by kernel_rfl) rfl, fun X us hX hτ hsz hd => ?_⟩
    unfold RunG
    rw [if_neg (by decide)]
    have hn : ∀ q, X.τ q = none := fun q => by rw [hτ]; simp
    rw [arr1 hsz]
    simp only [DRs] at hd
    obtain ⟨hd0, _⟩ := hd
    generalize us.getD 0 undef = u0 at hd0 ⊢
    simp only [DR] at hd0
    obtain ⟨cs, rfl, hcs, _, hds⟩ := hd0
    simp only [DRs] at hds
    obtain ⟨e0, e1, e2, _⟩ := hds
    simp only [DR] at e0 e2
    have hcs3 : cs.size = 3 := hcs
    have f0 := vr_int e0
    have e1' := slOf_wk hsl X _ e1
    have hne : 0 < xs.length := by cases xs with | nil => simp [isNil] at hc0 | cons => simp
    obtain ⟨c, a, b, o, vs, k1, k2, k3, k4, k5, k6⟩ := SlR.of_DR e1' hX
    have k2' := k2 hne
    subst k2'
    have g0 : cs.getD 0 undef = .int .i64 day := by
      generalize cs.getD 0 undef = z at e0; cases e0; rfl
    have g2 : cs.getD 2 undef = .string dg := by
      generalize cs.getD (0 + 1 + 1) undef = z at e2; cases e2; rfl
    have hcs' : cs = #[.int .i64 day, .slice (some ⟨b, o, none⟩) xs.length c, .string dg] := by
      apply Array.ext
      · simpa using hcs3
      · intro j h1 h2
        match j, h1 with
        | 0, h1 => simpa [Array.getD_eq_getD_getElem?, h1] using g0
        | 1, h1 =>
          have : cs.getD 1 undef = .slice (some (at_ b o)) xs.length c := k1
          simpa [Array.getD_eq_getD_getElem?, h1] using this
        | 2, h1 => simpa [Array.getD_eq_getD_getElem?, h1] using g2
        | j + 3, h1 => omega
    rw [hcs']
    have hcell : ∀ i x, xs[i]? = some x → ∀ j, j < 6 → X.w.cell? ⟨b, o + i * 6 + j, none⟩ = some (vs i j) := fun i x hx j hj => (k5 i (List.getElem?_eq_some_iff.1 hx).1 j hj).2
    have hb : b < X.w.heap.size := by
      have := k5 0 hne 0 (by decide)
      exact lt_of_cell this.2
    have hshape : ∀ k, k < xs.length → ∃ x, xs[k]? = some x ∧ (vs k 0 = .int .i64 (iOf (vs k 0)) ∧ vs k 1 = .int .i64 (iOf (vs k 1)) ∧ vs k 2 = .int .i64 (iOf (vs k 2)) ∧ vs k 3 = .int .i64 (iOf (vs k 3)) ∧
        vs k 4 = .slice (aOf (vs k 4)) (lOf (vs k 4)) (cOf (vs k 4)) ∧ vs k 5 = .slice (aOf (vs k 5)) (lOf (vs k 5)) (cOf (vs k 5))) ∧ x.length = 6 ∧ ∀ j v, x[j]? = some v → VR X.w X.S v (vs k j) := fun k hk => by
      have hx : xs[k]? = some xs[k] := List.getElem?_eq_getElem hk
      have hf := (hpr k _ hx).1
      have hv := k6 k _ hx
      generalize xs[k] = x at hx hf hv
      unfold factV at hf
      split at hf
      · rename_i n0 n1 n2 n3 A B
        simp only [Bool.and_eq_true] at hf
        exact ⟨_, hx, ⟨vr_int (hv 0 _ rfl), vr_int (hv 1 _ rfl), vr_int (hv 2 _ rfl), vr_int (hv 3 _ rfl), vr_slice (hv 4 _ rfl) hf.1, vr_slice (hv 5 _ rfl) hf.2⟩, rfl, hv⟩
      · cases hf
    have htx : textL ⟨⟨itoaL day⟩⟩ ⟨⟨itoaL xs.length⟩⟩ ((List.range xs.length).map fun k => (⟨⟨ps.getD k []⟩⟩ : ByteArray)) = textB day xs.length ps := by
      unfold textB
      congr 1
      apply List.ext_getElem?
      intro j
      rw [List.getElem?_map, List.getElem?_map]
      by_cases hj : j < xs.length
      · rw [List.getElem?_range hj, List.getElem?_eq_getElem (show j < ps.length by omega)]
        simp [List.getD_eq_getElem?_getD, List.getElem?_eq_getElem (show j < ps.length by omega)]
      · rw [List.getElem?_eq_none (by simpa using hj), List.getElem?_eq_none (show ps.length ≤ j by omega)]
        rfl
    have key := text_walk day b o c xs.length dg (fun k => iOf (vs k 0)) (fun k => iOf (vs k 1)) (fun k => iOf (vs k 2)) (fun k => iOf (vs k 3)) (fun k => aOf (vs k 4)) (fun k => aOf (vs k 5)) (fun k => lOf (vs k 4)) (fun k => cOf (vs k 4)) (fun k => lOf (vs k 5)) (fun k => cOf (vs k 5))
      ⟨⟨itoaL day⟩⟩ ⟨⟨itoaL xs.length⟩⟩ (fun k => ⟨⟨ps.getD k []⟩⟩) X.w ?_ hb k4 (by omega) ?_ ?_ ?_ ?_
    · refine key.mono fun e w' hh => ?_
      obtain ⟨rfl, hbel⟩ := hh
      have hd0 : Globs.counts → X.w.drawn ≤ w'.drawn := fun c => c.elim
      refine ⟨_, rfl, { X with w := w' }, rfl, below_ext hbel hd0, below_sto hX hbel hd0, fun q => by rw [hn]; simp, ?_⟩
      rw [htx]
      simp only [strD, DR]
      exact .str _
    · intro k hk
      obtain ⟨x, hx, ⟨h0, h1, h2, h3, h4, h5⟩, _, _⟩ := hshape k hk
      exact ⟨(hcell k x hx 0 (by decide)).trans (congrArg some h0), (hcell k x hx 1 (by decide)).trans (congrArg some h1), (hcell k x hx 2 (by decide)).trans (congrArg some h2),
        (hcell k x hx 3 (by decide)).trans (congrArg some h3), (hcell k x hx 4 (by decide)).trans (congrArg some h4), (hcell k x hx 5 (by decide)).trans (congrArg some h5)⟩
    · refine Pf_of hX hn (by decide) (itoa_call hc2 hc3) rfl ?_ fun X' v h => ?_
      · simp only [DRs, DR]
        exact ⟨.int _ _, trivial⟩
      · simp only [strD, DR] at h
        cases h
        rfl
    · refine Pf_of hX hn (by decide) (itoa_call (n := (xs.length : Int)) (by omega) (by omega)) rfl ?_ fun X' v h => ?_
      · simp only [DRs, DR]
        exact ⟨.int _ _, trivial⟩
      · simp only [strD, DR] at h
        cases h
        rfl
    · intro k hk
      obtain ⟨x, hx, ⟨h0, h1, h2, h3, h4, h5⟩, hx6, hv⟩ := hshape k hk
      refine Pf_of hX hn (by decide) (hpr k x hx).2 rfl ?_ fun X' v h => ?_
      · simp only [DRs, DR]
        refine ⟨⟨_, rfl, by simp [hx6], ?_, ?_⟩, trivial⟩
        · intro j hj
          have hj : j < 6 := hj
          match j, hj with
          | 0, _ => rfl
          | 1, _ => rfl
          | 2, _ => rfl
          | 3, _ => rfl
          | 4, _ => rfl
          | 5, _ => rfl
        · rw [DRs_ofV]
          intro j v hj
          have hj6 : j < 6 := hx6 ▸ (List.getElem?_eq_some_iff.1 hj).1
          have hvj := hv j v hj
          match j, hj6 with
          | 0, _ => exact h0 ▸ hvj
          | 1, _ => exact h1 ▸ hvj
          | 2, _ => exact h2 ▸ hvj
          | 3, _ => exact h3 ▸ hvj
          | 4, _ => exact h4 ▸ hvj
          | 5, _ => exact h5 ▸ hvj
      · simp only [DR, DRs] at h
        obtain ⟨ys, rfl, hys, p0, p1, _⟩ := h
        have hys2 : ys.size = 2 := hys
        rw [arrTwo hys2]
        generalize ys.getD 0 undef = z0 at p0 ⊢
        generalize ys.getD (0 + 1) undef = z1 at p1
        cases p0
        cases p1
        rfl
    · rw [htx]; exact hlen
  · cases hr
end Go.Ab
