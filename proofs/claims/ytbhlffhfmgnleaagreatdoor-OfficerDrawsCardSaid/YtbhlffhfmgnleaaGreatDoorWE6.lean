/- OfficerDraws: what the law calls, by what the samples are. -/
import Derived.Test.YtbhlffhfmgnleaaGreatDoorWE5
set_option linter.all false
namespace Go.Ab
open Go Go.Proofs
set_option maxRecDepth 100000
/-- Sample's error, if its slice is nil. -/
def nE (zs : List Int) (n : Int) : Option Int := if 64 < zs.length then some 8 else if smpE zs n ≠ 0 then some (smpE zs n) else if n = 0 then some 0 else none
def rE (zs : List Int) (n : Int) (k : Nat) : Bool := Nat.ble zs.length 64 && (decide (smpE zs n = 0) && decide (n = ((k + 1 : Nat) : Int)))
def yN (e : Int) : SumF := fun args σ _ K =>
  match args, σ with
  | [.v (.str s), .sl _ 1 xs, .v (.int .i64 n)], [] => (decI xs).bind fun zs => bif Nat.ble s.size 1000 && decide (nE zs n = some e) then K (.tup [.v .nils, .v (.int .i64 e)]) [] else none
  | _, _ => none
def yR (k : Nat) : SumF := fun args σ _ K =>
  match args, σ with
  | [.v (.str s), .sl _ 1 xs, .v (.int .i64 n)], [] => (decI xs).bind fun zs => bif Nat.ble s.size 1000 && rE zs n k then K (.tup [.rs 0 k 1 0 (k + 1), .v (.int .i64 0)]) [.arr 1 k ((smp (fP s) zs (k + 1)).map iC)] else none
  | _, _ => none
theorem yN_ok {f : FuncId} (h : SumFOk PO f ySm) (e : Int) : SumFOk PO f (yN e) := fun args σ R K r hr => by
  refine h args σ R K r ?_
  unfold yN at hr
  split at hr
  · rename_i s t xs n
    simp only [Option.bind_eq_some_iff] at hr
    obtain ⟨zs, h1, h2⟩ := hr
    obtain ⟨hc, hK⟩ := bif_then h2
    simp only [Bool.and_eq_true, decide_eq_true_eq] at hc
    obtain ⟨c1, c2⟩ := hc
    unfold ySm
    simp only
    rw [h1, Option.bind_some, c1, cond_true]
    unfold nE at c2
    by_cases hl : 64 < zs.length
    · rw [if_pos hl] at c2
      cases c2
      have : Nat.ble zs.length 64 = false := by
        cases hb : Nat.ble zs.length 64 with
        | true => have := Nat.le_of_ble_eq_true hb; omega
        | false => rfl
      rw [this, cond_false]
      exact hK
    · rw [if_neg hl] at c2
      rw [Nat.ble_eq_true_of_le (by omega : zs.length ≤ 64), cond_true]
      by_cases he : smpE zs n = 0
      · rw [if_neg (fun h => h he)] at c2
        by_cases hn : n = 0
        · rw [if_pos hn] at c2
          cases c2
          rw [decide_eq_true he, cond_true, decide_eq_true hn, cond_true]
          exact hK
        · rw [if_neg hn] at c2
          cases c2
      · rw [if_pos he] at c2
        cases c2
        rw [decide_eq_false he, cond_false]
        exact hK
  · cases hr
theorem yR_ok {f : FuncId} (h : SumFOk PO f ySm) (k : Nat) : SumFOk PO f (yR k) := fun args σ R K r hr => by
  refine h args σ R K r ?_
  unfold yR at hr
  split at hr
  · rename_i s t xs n
    simp only [Option.bind_eq_some_iff] at hr
    obtain ⟨zs, h1, h2⟩ := hr
    obtain ⟨hc, hK⟩ := bif_then h2
    unfold rE at hc
    simp only [Bool.and_eq_true, decide_eq_true_eq] at hc
    obtain ⟨c1, c2, c3, rfl⟩ := hc
    unfold ySm
    simp only
    rw [h1, Option.bind_some, c1, cond_true, c2, cond_true, decide_eq_true c3, cond_true, decide_eq_false (by omega), cond_false, Int.toNat_natCast]
    exact hK
  · cases hr
def dlN (e : Int) : List (FuncId × SumF) := [(6, y6), (7, y7), (8, y7), (9, y9), (10, y9), (11, yN e), (12, clM 1 8), (13, yN e), (14, y14), (15, y15), (16, y15)]
theorem dlN_ok (e : Int) : ∀ p ∈ dlN e, SumFOk PO p.1 p.2 := sumsC oy6 (sumsC oy7 (sumsC oy8 (sumsC oy9 (sumsC oy10 (sumsC (yN_ok o11m e) (sumsC o12 (sumsC (yN_ok o13m e) (sumsC oy14 (sumsC oy15 (sumsC oy16 sums0))))))))))
noncomputable def dN (e : Int) : CallerK := evT MZ (dlN e) [] 3
theorem dN_ok (e : Int) : CallerKOk PO (dN e) := evT_ok (M := MZ) mz_mixed (dlN_ok e) inls0 3
def dlR (k : Nat) : List (FuncId × SumF) := [(6, y6), (7, y7), (8, y7), (9, y9), (10, y9), (11, yR k), (12, clM 1 8), (13, yR k), (14, y14), (15, y15), (16, y15)]
theorem dlR_ok (k : Nat) : ∀ p ∈ dlR k, SumFOk PO p.1 p.2 := sumsC oy6 (sumsC oy7 (sumsC oy8 (sumsC oy9 (sumsC oy10 (sumsC (yR_ok o11m k) (sumsC o12 (sumsC (yR_ok o13m k) (sumsC oy14 (sumsC oy15 (sumsC oy16 sums0))))))))))
noncomputable def dR (k : Nat) : CallerK := evT MZ (dlR k) [] 3
theorem dR_ok (k : Nat) : CallerKOk PO (dR k) := evT_ok (M := MZ) mz_mixed (dlR_ok k) inls0 3
end Go.Ab

/- OfficerDraws: the law's trees, and that they come to true. -/
namespace Go.Ab
open Go Go.Proofs
set_option maxRecDepth 100000
set_option maxHeartbeats 2000000
abbrev noD : Option (D × Sto) := some (.v (.bool false), [])
abbrev yesD : Option (D × Sto) := some (.v (.bool true), [])
def cmpT (a b : Int) (salt : ByteArray) (x : Option (D × Sto)) : Option (D × Sto) :=
  bif (comD a salt).toList == (comD a salt).toList then bif decide (comE a salt = comE a salt) then bif (seedD a b).toList == (seedD a b).toList then bif decide (seedE a b = seedE a b) then x else noD else noD else noD else noD
def opT (a b : Int) (salt text : ByteArray) : Option (D × Sto) :=
  bif (openB text a salt == openB text a salt) && true then some (.v (.bool ((openB (comD a salt) b salt == openB (comD a salt) b salt) && true)), []) else noD
def argD (a b : Int) (salt text : ByteArray) (t : Tag) (zs : List Int) (n : Int) : List D := [.v (.int .i64 a), .v (.int .i64 b), .v (.str salt), .v (.str text), .sl t 1 (zs.map iC), .v (.int .i64 n)]
def inT (salt text : ByteArray) (zs : List Int) (x : Option (D × Sto)) : Option (D × Sto) :=
  bif decide ((salt.size : Int) > 100) then yesD else bif decide ((text.size : Int) > 100) then yesD else
    bif decide ((((zs.map iC).length : Nat) : Int) > 20) then bif !decide ((((zs.map iC).length : Nat) : Int) = 65) then yesD else x else x
def bodyN (a b : Int) (salt text : ByteArray) (zs : List Int) (n e : Int) : Option (D × Sto) :=
  bif room 8 (zs.map iC).length then
    (decI (window (zs.map iC) 0 (zs.map iC).length)).bind fun x => bif Nat.ble text.size 1000 && decide (nE x n = some e) then
      (decI (zs.map iC)).bind fun x1 => bif Nat.ble text.size 1000 && decide (nE x1 n = some e) then
        cmpT a b salt (bif decide (e = e) then opT a b salt text else noD)
      else none
    else none
  else none
theorem f3N (a b : Int) (salt text : ByteArray) (t : Tag) (zs : List Int) (n e : Int) : evBody MZ (dN e) lpC 3 (argD a b salt text t zs n) [] = inT salt text zs (bodyN a b salt text zs n e) := by kernel_rfl
def bodyR (a b : Int) (salt text : ByteArray) (zs : List Int) (n : Int) (k : Nat) : Option (D × Sto) :=
  bif room 8 (zs.map iC).length then
    (decI (window (zs.map iC) 0 (zs.map iC).length)).bind fun x => bif Nat.ble text.size 1000 && rE x n k then
      (decI (zs.map iC)).bind fun x1 => bif Nat.ble text.size 1000 && rE x1 n k then
        cmpT a b salt (bif decide (k = k) then bif decide (k = k) then
          (decI (window ((smp (fP text) x (k + 1)).map iC) 0 (k + 1))).bind fun x2 => (decI (window ((smp (fP text) x1 (k + 1)).map iC) 0 (k + 1))).bind fun x3 =>
            bif Nat.ble x2.length 1000000 then bif decide (x2 = x3) then (bif decide ((0 : Int) = 0) then opT a b salt text else noD) else noD else none
          else none else none)
      else none
    else none
  else none
theorem f3R (a b : Int) (salt text : ByteArray) (t : Tag) (zs : List Int) (n : Int) (k : Nat) : evBody MZ (dR k) lpC 3 (argD a b salt text t zs n) [] = inT salt text zs (bodyR a b salt text zs n k) := by kernel_rfl
theorem cmpT_eq (a b : Int) (salt : ByteArray) (x : Option (D × Sto)) : cmpT a b salt x = x := by
  unfold cmpT
  rw [beq_self_eq_true, beq_self_eq_true, decide_eq_true rfl, decide_eq_true rfl]
  rfl
theorem opT_eq (a b : Int) (salt text : ByteArray) : opT a b salt text = yesD := by
  unfold opT
  rw [beq_self_eq_true, beq_self_eq_true]
  rfl
theorem inT_yes {salt text : ByteArray} {zs : List Int} {x : Option (D × Sto)} (h : text.size ≤ 100 → zs.length ≤ 65 → x = yesD) : inT salt text zs x = yesD := by
  unfold inT
  rw [List.length_map]
  cases h1 : decide ((salt.size : Int) > 100) with
  | true => rfl
  | false =>
    cases h2 : decide ((text.size : Int) > 100) with
    | true => rfl
    | false =>
      have ht : text.size ≤ 100 := by have := of_decide_eq_false h2; omega
      cases h3 : decide (((zs.length : Nat) : Int) > 20) with
      | true =>
        cases h4 : decide (((zs.length : Nat) : Int) = 65) with
        | true => exact h ht (by have := of_decide_eq_true h4; omega)
        | false => rfl
      | false => exact h ht (by have := of_decide_eq_false h3; omega)
theorem roomL {n : Nat} (h : n ≤ 1000) : room 8 n = true := by
  unfold room
  simp only [Bool.and_eq_true, decide_eq_true_eq]
  omega
theorem r3N (a b : Int) (salt text : ByteArray) (t : Tag) (zs : List Int) (n e : Int) (he : nE zs n = some e) : evBody MZ (dN e) lpC 3 (argD a b salt text t zs n) [] = yesD := by
  rw [f3N]
  refine inT_yes fun ht hz => ?_
  unfold bodyN
  rw [window_all, decI_map', List.length_map, roomL (by omega), Nat.ble_eq_true_of_le (by omega : text.size ≤ 1000)]
  simp only [cond_true, Option.bind_some, he, decide_true, Bool.and_self, cmpT_eq, opT_eq]
theorem r3R (a b : Int) (salt text : ByteArray) (t : Tag) (zs : List Int) (n : Int) (k : Nat) (he : rE zs n k = true) : evBody MZ (dR k) lpC 3 (argD a b salt text t zs n) [] = yesD := by
  rw [f3R]
  refine inT_yes fun ht hz => ?_
  unfold bodyR
  have hw : window ((smp (fP text) zs (k + 1)).map iC) 0 (k + 1) = (smp (fP text) zs (k + 1)).map iC := by
    have := window_all ((smp (fP text) zs (k + 1)).map iC)
    rwa [List.length_map, smp_len] at this
  have hk : k + 1 ≤ 64 := by
    unfold rE at he
    simp only [Bool.and_eq_true, decide_eq_true_eq] at he
    obtain ⟨h1, h2, h3⟩ := he
    have := Nat.le_of_ble_eq_true h1
    have := smpE_in h2
    omega
  have c1 : Nat.ble (k + 1) 1000000 = true := Nat.ble_eq_true_of_le (by omega)
  rw [window_all, decI_map', List.length_map, roomL (by omega), Nat.ble_eq_true_of_le (by omega : text.size ≤ 1000)]
  simp only [cond_true, Option.bind_some, he, Bool.and_self, cmpT_eq, opT_eq, hw, decI_map', decide_true, smp_len, c1]
/-- The law at work. -/
theorem call3 (a b : Int) (salt text : ByteArray) (t : Tag) (zs : List Int) (n : Int) : CallSem PO 3 (argD a b salt text t zs n) [] (.v (.bool true)) [] := by
  cases he : nE zs n with
  | some e => exact call_z (dN_ok e) (by kernel_rfl) (by decide) (r3N a b salt text t zs n e he)
  | none =>
    unfold nE at he
    by_cases hl : 64 < zs.length
    · rw [if_pos hl] at he; cases he
    · rw [if_neg hl] at he
      by_cases h0 : smpE zs n = 0
      · rw [if_neg (fun h => h h0)] at he
        by_cases hn : n = 0
        · rw [if_pos hn] at he; cases he
        · have h3 := smpE_in h0
          obtain ⟨k, rfl⟩ : ∃ k : Nat, n = ((k + 1 : Nat) : Int) := ⟨n.toNat - 1, by omega⟩
          refine call_z (dR_ok k) (by kernel_rfl) (by decide) (r3R a b salt text t zs _ k ?_)
          unfold rE
          rw [Nat.ble_eq_true_of_le (by omega : zs.length ≤ 64), decide_eq_true h0, decide_eq_true rfl]
          rfl
      · rw [if_pos h0] at he; cases he
end Go.Ab
