/- strings.Join, strings.Repeat, strconv.Itoa: the shelf's contracts as summaries. -/
import Derived.Test.YtbhlffhfmgnleaaGreatDoorWA7
import Derived.Test.YtbhlffhfmgnleaaGreatDoorWB5
import Derived.Test.YtbhlffhfmgnleaaGreatDoorWB6
import Derived.OwnWalk
import Derived.WalkKit
import Derived.Tactics2
set_option linter.all false
namespace Go.Ab
open Go Go.Proofs Go.RowKit

theorem enters_ab {P : Program} {f : FuncId} {fn : Func} {b : Code} (h : P.funcs[f]? = some fn) (hn : (fn.name == "runtime.NumGoroutine") = false) (hb : fn.body = some b) : Go.Ab.Enters P f := ⟨fn, h, hn, by rw [hb]; rfl⟩

theorem strsOf_ok : ∀ {xs : List (List V)} {l : List ByteArray}, strsOf xs = some l → xs = l.map fun s => [V.str s]
  | [], l, h => by cases h; rfl
  | x :: xs, l, h => by
    unfold strsOf at h
    split at h
    · rename_i heq; cases heq
    · rename_i s ys heq
      cases heq
      simp only [Option.bind_eq_some_iff, Option.some.injEq] at h
      obtain ⟨l', h1, rfl⟩ := h
      rw [strsOf_ok h1]
      rfl
    · cases h

def joinL (l : List ByteArray) (sep : ByteArray) : List UInt8 := Lib.join (l.map bytesL) (bytesL sep)
def joinS (args : List D) (σ : Sto) : Option (D × Sto) :=
  match args, σ with
  | [.sl _ 1 xs, .v (.str sep)], [] => (strsOf xs).bind fun l =>
    bif !isNil l && decide (l.length ≤ 140737488355328) && decide ((joinL l sep).length ≤ 140737488355328) then some (.v (.str ⟨(joinL l sep).toArray⟩), []) else none
  | _, _ => none

theorem arrTwo {us : Array Value} (h : us.size = 2) : us = #[us.getD 0 undef, us.getD 1 undef] := by
  apply Array.ext
  · simpa using h
  · intro i h1 h2
    match i, h1 with
    | 0, h1 => simp [Array.getD_eq_getD_getElem?, h1]
    | 1, h1 => simp [Array.getD_eq_getD_getElem?, h1]
    | i + 2, h1 => omega
theorem arr1 {us : Array Value} (h : us.size = 1) : us = #[us.getD 0 undef] := by
  apply Array.ext
  · simpa using h
  · intro i h1 h2
    match i, h1 with
    | 0, h1 => simp [Array.getD_eq_getD_getElem?, h1]
    | i + 1, h1 => omega

theorem SlR.of_DR {X : Cx} {t : Tag} {n : Nat} {xs : List (List V)} {u : Value} (h : DR X (.sl t n xs) u) (hX : StoR X) : ∃ c, SlR X.w X.T X.S n xs c u := by
  cases t <;> simp only [DR] at h
  · obtain ⟨c, h⟩ := h; exact ⟨c, h.mono hX.sub (fun _ _ _ => rfl) (fun _ _ h => h) (fun _ _ _ => rfl)⟩
  · exact h
  · exact ⟨_, h.mono hX.sub (fun _ _ _ => rfl) (fun _ _ h => h) (fun _ _ _ => rfl)⟩

theorem join_sum : SumOk MO.P 144 joinS := fun args σ d σ' h => by
  unfold joinS at h
  split at h
  · rename_i t xs sep
    simp only [Option.bind_eq_some_iff] at h
    obtain ⟨l, h1, h⟩ := h
    obtain ⟨hc, h⟩ := bif_some h
    simp only [Option.some.injEq, Prod.mk.injEq] at h
    obtain ⟨rfl, rfl⟩ := h
    simp only [Bool.and_eq_true, decide_eq_true_eq] at hc
    obtain ⟨⟨hl0, hl1⟩, hl2⟩ := hc
    have hne : 0 < l.length := by cases l with | nil => simp [isNil] at hl0 | cons => simp
    have hxs := strsOf_ok h1
    subst hxs
    refine ⟨enters_ab Tryz.func144 (by kernel_rfl) rfl, fun X us hX hτ hsz hd => pure_call hX hτ ?_⟩
    rw [arrTwo hsz]
    simp only [DRs] at hd
    obtain ⟨hd0, hd1, _⟩ := hd
    generalize us.getD 0 undef = u0 at hd0 ⊢
    generalize us.getD 1 undef = u1 at hd1 ⊢
    simp only [DR] at hd1
    cases hd1
    obtain ⟨c, a, b, o, vs, rfl, k2, k3, k4, k5, k6⟩ := SlR.of_DR hd0 hX
    rw [List.length_map] at k2 k4 k5 ⊢
    rw [k2 hne]
    have hcell : ∀ (j : Nat) (x : ByteArray), l[j]? = some x → X.w.cell? ⟨b, o + j, none⟩ = some (.string x) := fun j x hj => by
      have hjl : j < l.length := (List.getElem?_eq_some_iff.1 hj).1
      have h5 := (k5 j hjl 0 (by omega)).2
      have h6 := k6 j [V.str x] (by rw [List.getElem?_map, hj]; rfl) 0 (V.str x) rfl
      rw [Nat.mul_one, Nat.add_zero] at h5
      generalize vs j 0 = v at h5 h6
      cases h6
      exact h5
    have hb : b < X.w.heap.size := by
      obtain ⟨x, hx⟩ : ∃ x, l[0]? = some x := ⟨l[0], List.getElem?_eq_getElem hne⟩
      exact lt_of_cell (hcell 0 x hx)
    refine (Tryz.strings_Join b o c l sep X.w hcell hb hl1 k4 hl2).mono ?_
    rintro e w' ⟨rfl, hbel⟩
    exact ⟨_, rfl, hbel, fun c => c.elim, by simp only [DR]; exact .str _⟩
  · cases h

def repL (s : ByteArray) (n : Int) : List UInt8 := Lib.repeatL (bytesL s) n.toNat
def repeatS (args : List D) (σ : Sto) : Option (D × Sto) :=
  match args, σ with
  | [.v (.str s), .v (.int .i64 n)], [] => bif decide (0 ≤ n) && decide (n ≤ 9223372036854775807) && decide (s.size * n.toNat ≤ 140737488355328) then some (.v (.str ⟨(repL s n).toArray⟩), []) else none
  | _, _ => none
theorem repeat_sum : SumOk MO.P 75 repeatS := fun args σ d σ' h => by
  unfold repeatS at h
  split at h
  · rename_i s n
    obtain ⟨hc, h⟩ := bif_some h
    simp only [Option.some.injEq, Prod.mk.injEq] at h
    obtain ⟨rfl, rfl⟩ := h
    simp only [Bool.and_eq_true, decide_eq_true_eq] at hc
    obtain ⟨⟨h0, h1⟩, h2⟩ := hc
    refine ⟨enters_ab Tryz.func75 (by kernel_rfl) rfl, fun X us hX hτ hsz hd => pure_call hX hτ ?_⟩
    rw [arrTwo hsz]
    simp only [DRs, DR] at hd
    obtain ⟨hd0, hd1, _⟩ := hd
    generalize us.getD 0 undef = u0 at hd0 ⊢
    generalize us.getD 1 undef = u1 at hd1 ⊢
    cases hd0
    cases hd1
    obtain ⟨k, rfl⟩ := Int.eq_ofNat_of_zero_le h0
    refine (Tryz.strings_Repeat s k X.w (by omega) (by simpa using h2)).mono ?_
    rintro e w' ⟨rfl, hbel⟩
    exact ⟨_, rfl, hbel, fun c => c.elim, by simp only [DR]; exact .str _⟩
  · cases h

theorem decF_eq : ∀ (f u : Nat), u < 10 ^ (f + 1) → decF (f + 1) u = Lib.decDigits u
  | 0, u, h => by
    rw [Lib.decDigits, decF]
    have hu : u < 10 := by simpa using h
    simp [hu]
  | f + 1, u, h => by
    rw [Lib.decDigits, decF]
    by_cases hu : u < 10
    · simp [hu]
    · simp only [hu, decide_false, cond_false, dif_neg, not_false_iff]
      rw [decF_eq f (u / 10) (by rw [Nat.pow_succ] at h; omega)]
theorem itoaL_eq {n : Int} (h0 : -9223372036854775808 ≤ n) (h1 : n ≤ 9223372036854775807) : itoaL n = Lib.itoa n := by
  unfold itoaL Lib.itoa
  by_cases hn : n < 0
  · simp only [hn, decide_true, cond_true, if_true]
    rw [decF_eq 19 n.natAbs (by omega)]
  · simp only [hn, decide_false, cond_false, if_false]
    rw [decF_eq 19 n.toNat (by omega)]
def itoaS (args : List D) (σ : Sto) : Option (D × Sto) :=
  match args, σ with
  | [.v (.int .i64 n)], [] => bif decide (-9223372036854775808 ≤ n) && decide (n ≤ 9223372036854775807) then some (.v (.str ⟨(itoaL n).toArray⟩), []) else none
  | _, _ => none
theorem tab_is {X : Cx} (hX : StoR X) : Go.Lib.TabIs Tryz.prog X.w "internal/strconv.uint64pow10" .u64 Go.Lib.pow10Tab := by
  obtain ⟨h1, c, e, f, h2, h3, h4⟩ := hX.glob 3 (pow10N.map fun n => V.int .u64 n) rfl
  have hg : Tryz.prog.globalNamed "internal/strconv.uint64pow10" = some 3 := by kernel_rfl
  unfold Go.Lib.TabIs World.var?
  rw [hg, Option.bind_some, h2]
  show some c = _
  congr 1
  obtain ⟨b, o, us, k1, k2, k3⟩ := h1
  simp only [Value.pointer.injEq, Option.some.injEq, Addr.mk.injEq] at k1
  obtain ⟨rfl, rfl, _⟩ := k1
  have hsz : c.size = 20 := by rw [h3]; rfl
  apply Array.ext
  · rw [hsz]; simp [Go.Lib.pow10Tab]
  · intro i hi1 hi2
    have hi : i < 20 := by omega
    have hj := (k2 i (by rw [← h3]; omega)).2
    have hv := k3 i (V.int .u64 ((10 ^ i : Nat) : Int)) (by simp [pow10N, hi])
    simp only [World.cell?, h2, Nat.zero_add, Array.getElem?_eq_getElem hi1] at hj
    have hj : c[i] = us i := by simpa using hj
    rw [← hj] at hv
    generalize c[i] = ci at hv ⊢
    cases hv
    simp [Go.Lib.pow10Tab]
theorem itoa_sum : SumOk MO.P 17 itoaS := fun args σ d σ' h => by
  unfold itoaS at h
  split at h
  · rename_i n
    obtain ⟨hc, h⟩ := bif_some h
    simp only [Option.some.injEq, Prod.mk.injEq] at h
    obtain ⟨rfl, rfl⟩ := h
    simp only [Bool.and_eq_true, decide_eq_true_eq] at hc
    refine ⟨enters_ab Tryz.func17 (by kernel_rfl) rfl, fun X us hX hτ hsz hd => pure_call hX hτ ?_⟩
    rw [arr1 hsz]
    simp only [DRs, DR] at hd
    obtain ⟨hd0, _⟩ := hd
    generalize us.getD 0 undef = u0 at hd0 ⊢
    cases hd0
    refine (Tryz.strconv_Itoa n hc.1 hc.2 X.w (tab_is hX)).mono ?_
    rintro e w' ⟨rfl, k, os, rfl⟩
    refine ⟨_, rfl, ?_, fun c => c.elim, ?_⟩
    · exact ⟨rfl, rfl, rfl, by simp [Go.Sort.grow, World.drewN], fun b hb => by simp [Go.Sort.grow, World.drewN, Array.getElem?_append_left hb]⟩
    · rw [← itoaL_eq hc.1 hc.2]
      simp only [DR]
      exact .str _
  · cases h
end Go.Ab

/- strings.Join, strings.Repeat, strconv.Itoa: the summaries that hand on. -/
namespace Go.Ab
open Go
theorem joinB_eq : ∀ (l : List (List UInt8)) (sep : List UInt8), joinB l sep = Lib.join l sep
  | [], sep => by simp [joinB, Lib.join]
  | [x], sep => by simp [joinB, Lib.join]
  | x :: y :: l, sep => by rw [joinB, joinB_eq (y :: l) sep]; simp [Lib.join]; simp
theorem repB_eq (n : Nat) (l : List UInt8) : (List.replicate n l).flatten = Lib.repeatL l n := by
  induction n with
  | zero => simp [Lib.repeatL]
  | succ n ih => rw [List.replicate_succ, List.flatten_cons, ih]; simp [Lib.repeatL]
theorem SumOk.to {P : Program} {f : FuncId} (hf : f ≠ yid) {s : List D → Sto → Option (D × Sto)} (h : SumOk P f s) {sF : SumF}
    (hs : ∀ args σ (R : Type) (K : D → Sto → Option R) r, sF args σ K = some r → ∃ d σ', s args σ = some (d, σ') ∧ K d σ' = some r) : SumFOk P f sF := fun args σ R K r hr => by
  obtain ⟨d, σ', h1, h2⟩ := hs args σ R K r hr
  obtain ⟨k1, k2⟩ := h args σ d σ' h1
  refine ⟨d, σ', h2, fun _ => k1, fun X us a1 a2 a3 a4 => ?_⟩
  unfold RunG
  rw [if_neg hf]
  exact k2 X us a1 a2 a3 a4
theorem o144 : SumFOk PO 144 s144 := SumOk.to (by decide) join_sum fun args σ R K r hr => by
  unfold s144 at hr
  split at hr
  · rename_i t xs sep
    simp only [Option.bind_eq_some_iff] at hr
    obtain ⟨l, h1, h2⟩ := hr
    obtain ⟨h3, h4⟩ := bif_then h2
    rw [fBytes_eq] at h4
    rw [joinB_eq] at h3 h4
    refine ⟨_, _, ?_, h4⟩
    show Option.bind (strsOf xs) _ = _
    rw [h1, Option.bind_some]
    have h3' : (!isNil l && decide (l.length ≤ 140737488355328) && decide ((joinL l sep).length ≤ 140737488355328)) = true := h3
    rw [h3', cond_true]
    rfl
  · cases hr
theorem o75 : SumFOk PO 75 s75 := SumOk.to (by decide) repeat_sum fun args σ R K r hr => by
  unfold s75 at hr
  split at hr
  · rename_i s n
    obtain ⟨h3, h4⟩ := bif_then hr
    rw [fBytes_eq, repB_eq] at h4
    refine ⟨_, _, ?_, h4⟩
    unfold repeatS
    simp only [h3, cond_true]
    rfl
  · cases hr
theorem o17 : SumFOk PO 17 s17 := SumOk.to (by decide) itoa_sum fun args σ R K r hr => by
  unfold s17 at hr
  split at hr
  · rename_i n
    obtain ⟨h3, h4⟩ := bif_then hr
    rw [fBytes_eq] at h4
    refine ⟨_, _, ?_, h4⟩
    unfold itoaS
    simp only [h3, cond_true]
    rfl
  · cases hr
end Go.Ab

/- slices.Clone at this seat's types. Made by a program. -/
namespace Go.Ab
open Go
set_option maxRecDepth 100000
def opIn (r : Nat) : Code → Option (Array Oper)
  | .region i ops _ => bif Nat.beq i r then some ops else none
  | .seq a b => match opIn r a with | some x => some x | none => opIn r b
  | .cond _ a b => match opIn r a with | some x => some x | none => opIn r b
  | .block _ b => opIn r b
  | .loop b => opIn r b
  | _ => none
noncomputable def opAt (f r j : Nat) : Oper := (((opIn r (bodyOf PO f)).getD #[])[j]?).getD { dst := none, op := .move (.tmp 0), type := 0, pos := "", after := #[], guard := none }
abbrev i64V (n : Int) : V := .int .i64 n

theorem cl12 : SumOk PO 12 (cloneS 1 8) := fun args σ d σ' h => clone_ok (P := PO) Go.Proofs.Tryz.func12 (by kernel_rfl) (by kernel_rfl) (by decide) (i0 := 0) (i1 := 1) (i2 := 2) (i3 := 3) (q0 := (opAt 12 0 0)) (q1 := (opAt 12 1 0)) (q2 := (opAt 12 1 1)) (q3 := (opAt 12 2 0)) (q4 := (opAt 12 3 0)) (q5 := (opAt 12 3 1)) (q6 := (opAt 12 3 2)) (q7 := (opAt 12 3 3)) (by kernel_rfl)
  (T := 22) (e := 3) (ty := 22) (m := 1) (b := 8) (z := [i64V 0]) (by kernel_rfl) (by kernel_rfl) (by kernel_rfl) (by kernel_rfl) rfl (by decide) (k := { callee := .builtin .append, args := #[.tmp 5, .tmp 6], argTypes := #[22, 22] })
  ⟨by kernel_rfl, by kernel_rfl, by kernel_rfl⟩ ⟨by kernel_rfl, by kernel_rfl, by kernel_rfl⟩ ⟨by kernel_rfl, by kernel_rfl, by kernel_rfl⟩ ⟨by kernel_rfl, by kernel_rfl, by kernel_rfl⟩ ⟨by kernel_rfl, by kernel_rfl, by kernel_rfl⟩ ⟨by kernel_rfl, by kernel_rfl, by kernel_rfl⟩ ⟨by kernel_rfl, by kernel_rfl, by kernel_rfl⟩ rfl ⟨by kernel_rfl, by kernel_rfl, by kernel_rfl⟩ h
theorem o12 : SumFOk PO 12 (clM 1 8) := clM_ok (by decide) (by decide) cl12

theorem cl107 : SumOk PO 107 (cloneS 1 16) := fun args σ d σ' h => clone_ok (P := PO) Go.Proofs.Tryz.func107 (by kernel_rfl) (by kernel_rfl) (by decide) (i0 := 0) (i1 := 1) (i2 := 2) (i3 := 3) (q0 := (opAt 107 0 0)) (q1 := (opAt 107 1 0)) (q2 := (opAt 107 1 1)) (q3 := (opAt 107 2 0)) (q4 := (opAt 107 3 0)) (q5 := (opAt 107 3 1)) (q6 := (opAt 107 3 2)) (q7 := (opAt 107 3 3)) (by kernel_rfl)
  (T := 45) (e := 9) (ty := 45) (m := 1) (b := 16) (z := [.str ⟨#[]⟩]) (by kernel_rfl) (by kernel_rfl) (by kernel_rfl) (by kernel_rfl) rfl (by decide) (k := { callee := .builtin .append, args := #[.tmp 5, .tmp 6], argTypes := #[45, 45] })
  ⟨by kernel_rfl, by kernel_rfl, by kernel_rfl⟩ ⟨by kernel_rfl, by kernel_rfl, by kernel_rfl⟩ ⟨by kernel_rfl, by kernel_rfl, by kernel_rfl⟩ ⟨by kernel_rfl, by kernel_rfl, by kernel_rfl⟩ ⟨by kernel_rfl, by kernel_rfl, by kernel_rfl⟩ ⟨by kernel_rfl, by kernel_rfl, by kernel_rfl⟩ ⟨by kernel_rfl, by kernel_rfl, by kernel_rfl⟩ rfl ⟨by kernel_rfl, by kernel_rfl, by kernel_rfl⟩ h
theorem o107 : SumFOk PO 107 (clM 1 16) := clM_ok (by decide) (by decide) cl107

theorem cl171 : SumOk PO 171 (cloneS 5 40) := fun args σ d σ' h => clone_ok (P := PO) Go.Proofs.Tryz.func171 (by kernel_rfl) (by kernel_rfl) (by decide) (i0 := 0) (i1 := 1) (i2 := 2) (i3 := 3) (q0 := (opAt 171 0 0)) (q1 := (opAt 171 1 0)) (q2 := (opAt 171 1 1)) (q3 := (opAt 171 2 0)) (q4 := (opAt 171 3 0)) (q5 := (opAt 171 3 1)) (q6 := (opAt 171 3 2)) (q7 := (opAt 171 3 3)) (by kernel_rfl)
  (T := 57) (e := 260) (ty := 57) (m := 5) (b := 40) (z := [i64V 0, i64V 0, i64V 0, i64V 0, i64V 0]) (by kernel_rfl) (by kernel_rfl) (by kernel_rfl) (by kernel_rfl) rfl (by decide) (k := { callee := .builtin .append, args := #[.tmp 5, .tmp 6], argTypes := #[57, 57] })
  ⟨by kernel_rfl, by kernel_rfl, by kernel_rfl⟩ ⟨by kernel_rfl, by kernel_rfl, by kernel_rfl⟩ ⟨by kernel_rfl, by kernel_rfl, by kernel_rfl⟩ ⟨by kernel_rfl, by kernel_rfl, by kernel_rfl⟩ ⟨by kernel_rfl, by kernel_rfl, by kernel_rfl⟩ ⟨by kernel_rfl, by kernel_rfl, by kernel_rfl⟩ ⟨by kernel_rfl, by kernel_rfl, by kernel_rfl⟩ rfl ⟨by kernel_rfl, by kernel_rfl, by kernel_rfl⟩ h
theorem o171 : SumFOk PO 171 (clM 5 40) := clM_ok (by decide) (by decide) cl171

theorem cl172 : SumOk PO 172 (cloneS 5 40) := fun args σ d σ' h => clone_ok (P := PO) Go.Proofs.Tryz.func172 (by kernel_rfl) (by kernel_rfl) (by decide) (i0 := 0) (i1 := 1) (i2 := 2) (i3 := 3) (q0 := (opAt 172 0 0)) (q1 := (opAt 172 1 0)) (q2 := (opAt 172 1 1)) (q3 := (opAt 172 2 0)) (q4 := (opAt 172 3 0)) (q5 := (opAt 172 3 1)) (q6 := (opAt 172 3 2)) (q7 := (opAt 172 3 3)) (by kernel_rfl)
  (T := 58) (e := 263) (ty := 58) (m := 5) (b := 40) (z := [i64V 0, i64V 0, i64V 0, i64V 0, i64V 0]) (by kernel_rfl) (by kernel_rfl) (by kernel_rfl) (by kernel_rfl) rfl (by decide) (k := { callee := .builtin .append, args := #[.tmp 5, .tmp 6], argTypes := #[58, 58] })
  ⟨by kernel_rfl, by kernel_rfl, by kernel_rfl⟩ ⟨by kernel_rfl, by kernel_rfl, by kernel_rfl⟩ ⟨by kernel_rfl, by kernel_rfl, by kernel_rfl⟩ ⟨by kernel_rfl, by kernel_rfl, by kernel_rfl⟩ ⟨by kernel_rfl, by kernel_rfl, by kernel_rfl⟩ ⟨by kernel_rfl, by kernel_rfl, by kernel_rfl⟩ ⟨by kernel_rfl, by kernel_rfl, by kernel_rfl⟩ rfl ⟨by kernel_rfl, by kernel_rfl, by kernel_rfl⟩ h
theorem o172 : SumFOk PO 172 (clM 5 40) := clM_ok (by decide) (by decide) cl172

theorem cl173 : SumOk PO 173 (cloneS 4 32) := fun args σ d σ' h => clone_ok (P := PO) Go.Proofs.Tryz.func173 (by kernel_rfl) (by kernel_rfl) (by decide) (i0 := 0) (i1 := 1) (i2 := 2) (i3 := 3) (q0 := (opAt 173 0 0)) (q1 := (opAt 173 1 0)) (q2 := (opAt 173 1 1)) (q3 := (opAt 173 2 0)) (q4 := (opAt 173 3 0)) (q5 := (opAt 173 3 1)) (q6 := (opAt 173 3 2)) (q7 := (opAt 173 3 3)) (by kernel_rfl)
  (T := 59) (e := 187) (ty := 59) (m := 4) (b := 32) (z := [i64V 0, i64V 0, i64V 0, i64V 0]) (by kernel_rfl) (by kernel_rfl) (by kernel_rfl) (by kernel_rfl) rfl (by decide) (k := { callee := .builtin .append, args := #[.tmp 5, .tmp 6], argTypes := #[59, 59] })
  ⟨by kernel_rfl, by kernel_rfl, by kernel_rfl⟩ ⟨by kernel_rfl, by kernel_rfl, by kernel_rfl⟩ ⟨by kernel_rfl, by kernel_rfl, by kernel_rfl⟩ ⟨by kernel_rfl, by kernel_rfl, by kernel_rfl⟩ ⟨by kernel_rfl, by kernel_rfl, by kernel_rfl⟩ ⟨by kernel_rfl, by kernel_rfl, by kernel_rfl⟩ ⟨by kernel_rfl, by kernel_rfl, by kernel_rfl⟩ rfl ⟨by kernel_rfl, by kernel_rfl, by kernel_rfl⟩ h
theorem o173 : SumFOk PO 173 (clM 4 32) := clM_ok (by decide) (by decide) cl173

theorem cl283 : SumOk PO 283 (cloneS 4 48) := fun args σ d σ' h => clone_ok (P := PO) Go.Proofs.Tryz.func283 (by kernel_rfl) (by kernel_rfl) (by decide) (i0 := 0) (i1 := 1) (i2 := 2) (i3 := 3) (q0 := (opAt 283 0 0)) (q1 := (opAt 283 1 0)) (q2 := (opAt 283 1 1)) (q3 := (opAt 283 2 0)) (q4 := (opAt 283 3 0)) (q5 := (opAt 283 3 1)) (q6 := (opAt 283 3 2)) (q7 := (opAt 283 3 3)) (by kernel_rfl)
  (T := 52) (e := 107) (ty := 52) (m := 4) (b := 48) (z := [i64V 0, i64V 0, i64V 0, .nils]) (by kernel_rfl) (by kernel_rfl) (by kernel_rfl) (by kernel_rfl) rfl (by decide) (k := { callee := .builtin .append, args := #[.tmp 5, .tmp 6], argTypes := #[52, 52] })
  ⟨by kernel_rfl, by kernel_rfl, by kernel_rfl⟩ ⟨by kernel_rfl, by kernel_rfl, by kernel_rfl⟩ ⟨by kernel_rfl, by kernel_rfl, by kernel_rfl⟩ ⟨by kernel_rfl, by kernel_rfl, by kernel_rfl⟩ ⟨by kernel_rfl, by kernel_rfl, by kernel_rfl⟩ ⟨by kernel_rfl, by kernel_rfl, by kernel_rfl⟩ ⟨by kernel_rfl, by kernel_rfl, by kernel_rfl⟩ rfl ⟨by kernel_rfl, by kernel_rfl, by kernel_rfl⟩ h
theorem o283 : SumFOk PO 283 (clM 4 48) := clM_ok (by decide) (by decide) cl283

theorem cl284 : SumOk PO 284 (cloneS 2 16) := fun args σ d σ' h => clone_ok (P := PO) Go.Proofs.Tryz.func284 (by kernel_rfl) (by kernel_rfl) (by decide) (i0 := 0) (i1 := 1) (i2 := 2) (i3 := 3) (q0 := (opAt 284 0 0)) (q1 := (opAt 284 1 0)) (q2 := (opAt 284 1 1)) (q3 := (opAt 284 2 0)) (q4 := (opAt 284 3 0)) (q5 := (opAt 284 3 1)) (q6 := (opAt 284 3 2)) (q7 := (opAt 284 3 3)) (by kernel_rfl)
  (T := 105) (e := 190) (ty := 105) (m := 2) (b := 16) (z := [i64V 0, i64V 0]) (by kernel_rfl) (by kernel_rfl) (by kernel_rfl) (by kernel_rfl) rfl (by decide) (k := { callee := .builtin .append, args := #[.tmp 5, .tmp 6], argTypes := #[105, 105] })
  ⟨by kernel_rfl, by kernel_rfl, by kernel_rfl⟩ ⟨by kernel_rfl, by kernel_rfl, by kernel_rfl⟩ ⟨by kernel_rfl, by kernel_rfl, by kernel_rfl⟩ ⟨by kernel_rfl, by kernel_rfl, by kernel_rfl⟩ ⟨by kernel_rfl, by kernel_rfl, by kernel_rfl⟩ ⟨by kernel_rfl, by kernel_rfl, by kernel_rfl⟩ ⟨by kernel_rfl, by kernel_rfl, by kernel_rfl⟩ rfl ⟨by kernel_rfl, by kernel_rfl, by kernel_rfl⟩ h
theorem o284 : SumFOk PO 284 (clM 2 16) := clM_ok (by decide) (by decide) cl284

theorem cl285 : SumOk PO 285 (cloneS 5 64) := fun args σ d σ' h => clone_ok (P := PO) Go.Proofs.Tryz.func285 (by kernel_rfl) (by kernel_rfl) (by decide) (i0 := 0) (i1 := 1) (i2 := 2) (i3 := 3) (q0 := (opAt 285 0 0)) (q1 := (opAt 285 1 0)) (q2 := (opAt 285 1 1)) (q3 := (opAt 285 2 0)) (q4 := (opAt 285 3 0)) (q5 := (opAt 285 3 1)) (q6 := (opAt 285 3 2)) (q7 := (opAt 285 3 3)) (by kernel_rfl)
  (T := 51) (e := 138) (ty := 51) (m := 5) (b := 64) (z := [i64V 0, i64V 0, i64V 0, .str ⟨#[]⟩, .nils]) (by kernel_rfl) (by kernel_rfl) (by kernel_rfl) (by kernel_rfl) rfl (by decide) (k := { callee := .builtin .append, args := #[.tmp 5, .tmp 6], argTypes := #[51, 51] })
  ⟨by kernel_rfl, by kernel_rfl, by kernel_rfl⟩ ⟨by kernel_rfl, by kernel_rfl, by kernel_rfl⟩ ⟨by kernel_rfl, by kernel_rfl, by kernel_rfl⟩ ⟨by kernel_rfl, by kernel_rfl, by kernel_rfl⟩ ⟨by kernel_rfl, by kernel_rfl, by kernel_rfl⟩ ⟨by kernel_rfl, by kernel_rfl, by kernel_rfl⟩ ⟨by kernel_rfl, by kernel_rfl, by kernel_rfl⟩ rfl ⟨by kernel_rfl, by kernel_rfl, by kernel_rfl⟩ h
theorem o285 : SumFOk PO 285 (clM 5 64) := clM_ok (by decide) (by decide) cl285

end Go.Ab

/- book.line, book.text: walked. -/
namespace Go.Proofs
open Go.RowKit

/-- A call that hands back v, and makes new memory at most, in whatever world goes on from w. -/
def Pf (w : World) (f : FuncId) (us : Array Value) (v : Value) : Prop :=
  ∀ w', Below w.heap.size w w' → Calls Tryz.prog f us w' fun e w'' => e = .returned v ∧ Below w'.heap.size w' w''

def strB (l : List UInt8) : ByteArray := ⟨l.toArray⟩
def lineL (xs : List ByteArray) : List UInt8 := Lib.join (xs.map (·.data.toList)) [32] ++ [10]

set_option maxHeartbeats 1000000 in
set_option maxRecDepth 100000 in
theorem line_walk (bk o c : Nat) (xs : List ByteArray) (w : World) (hcells : ∀ (j : Nat) x, xs[j]? = some x → w.cell? ⟨bk, o + j, none⟩ = some (.string x)) (hbk : bk < w.heap.size) (hN : xs.length ≤ 140737488355328) (hcap : xs.length ≤ c)
    (hlen : (lineL xs).length ≤ 140737488355328) :
    Calls Tryz.prog 117 #[.slice (some ⟨bk, o, none⟩) xs.length c] w fun e w' => e = .returned (.string (strB (lineL xs))) ∧ Below w.heap.size w w' := by
  have hno : ¬ 9223372036854775807 < (Lib.join (List.map (fun x => x.data.toList) xs) [32]).length + 1 := by unfold lineL at hlen; simp at hlen; omega
  go_enter Tryz.func117, Tryz.ntmps117
  go_wp2_with fail
  refine (Tryz.strings_Join bk o c xs ⟨#[32]⟩ w hcells hbk hN hcap (by unfold lineL at hlen; simp at hlen ⊢; omega)).mono ?_
  rintro e w' ⟨rfl, hb⟩
  go_wp2
  go_ret
  refine ⟨?_, hb⟩
  unfold strB lineL
  rfl
end Go.Proofs
