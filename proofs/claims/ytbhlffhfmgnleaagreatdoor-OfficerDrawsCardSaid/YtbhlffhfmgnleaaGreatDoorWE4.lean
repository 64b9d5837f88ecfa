/- The evaluator that reads ints and bools of unknown rows; what the reference's Sample calls. -/
import Derived.Test.YtbhlffhfmgnleaaGreatDoorWE3
set_option linter.all false
namespace Go.Ab
open Go Go.Proofs
set_option maxRecDepth 100000
abbrev bC (b : Bool) : List V := [.bool b]
def decB : List V → Option Bool
  | [.bool b] => some b
  | _ => none
theorem decB_ok {xs : List V} {b : Bool} (h : decB xs = some b) : xs = bC b := by
  unfold decB at h
  split at h
  · cases h; rfl
  · cases h
def canB (t : Nat) (xs : List V) (R : Type) (k : List V → Option R) : Option R :=
  bif Nat.beq t 3 then (decE xs).bind fun z => k (iC z) else bif Nat.beq t 4 then (decB xs).bind fun b => k (bC b) else k xs
theorem canB_ok (t : Nat) (xs : List V) (R : Type) (k : List V → Option R) (r : R) (h : canB t xs R k = some r) : ∃ ys, k ys = some r ∧ WkSL xs ys := by
  unfold canB at h
  cases hb : Nat.beq t 3 with
  | true =>
    rw [hb] at h
    simp only [cond_true, Option.bind_eq_some_iff] at h
    obtain ⟨z, h1, h2⟩ := h
    rw [decE_ok h1]
    exact ⟨_, h2, WkSL.refl _⟩
  | false =>
    rw [hb, cond_false] at h
    cases hb4 : Nat.beq t 4 with
    | true =>
      rw [hb4] at h
      simp only [cond_true, Option.bind_eq_some_iff] at h
      obtain ⟨z, h1, h2⟩ := h
      rw [decB_ok h1]
      exact ⟨_, h2, WkSL.refl _⟩
    | false => rw [hb4] at h; exact ⟨xs, h, WkSL.refl _⟩
noncomputable def MB : Mode := { MY with can := fun t xs _ k => canB t xs _ k, canOk := fun t => canB_ok t }
theorem mb_mixed : MB.P.follows .mixedOrders = true := by kernel_rfl
noncomputable def c13 : CallerK := evT MB rl8 [30, 57] 5
theorem c13_ok : CallerKOk PO c13 := evT_ok (M := MB) mb_mixed rl8_ok (inlsC (by kernel_rfl) (inlsC (by kernel_rfl) inls0)) 5
theorem call_b {c : CallerK} (hc : CallerKOk PO c) {f : FuncId} (hok : fnOkB PO f = true) (hf : f ≠ yid) {args : List D} {σ σ' : Sto} {d : D} (h : evBody MB c lpC f args σ = some (d, σ')) : CallSem PO f args σ d σ' := by
  obtain ⟨k1, k2⟩ := evBody_ok (M := MB) hc mb_mixed lpC_ok (FnOk.of hok) h
  refine ⟨fun _ => k1, fun X us a1 a2 a3 a4 => ?_⟩
  unfold RunG
  rw [if_neg hf]
  exact k2 X us a1 a2 a3 a4
end Go.Ab

/- The reference's Sample: its trees. -/
namespace Go.Ab
open Go Go.Proofs
set_option maxRecDepth 100000

abbrev eR4 (s : ByteArray) (t : Tag) (zs : List Int) (n i : Int) : Env := [(0, .v (.str s)), (1, .sl t 1 (zs.map iC)), (2, .v (.int .i64 n)), (6, .v .nils), (7, .v (.int .i64 0)), (8, .v (.int .i64 i))]

abbrev eR4x (s : ByteArray) (t : Tag) (zs : List Int) (n i : Int) : Env := [(0, .v (.str s)), (1, .sl t 1 (zs.map iC)), (2, .v (.int .i64 n)), (6, .v .nils), (7, .v (.int .i64 2)), (8, .v (.int .i64 i))]

abbrev eR9 (s : ByteArray) (t : Tag) (zs : List Int) (n i : Int) : Env := [(0, .v (.str s)), (1, .sl t 1 (zs.map iC)), (2, .v (.int .i64 n)), (6, .v .nils), (7, .v (.int .i64 0)), (9, .v (.int .i64 i))]

abbrev eR9x (s : ByteArray) (t : Tag) (zs : List Int) (n i : Int) : Env := [(0, .v (.str s)), (1, .sl t 1 (zs.map iC)), (2, .v (.int .i64 n)), (6, .v .nils), (7, .v (.int .i64 5)), (9, .v (.int .i64 i))]

abbrev e18 (s : ByteArray) (t : Tag) (zs : List Int) (n : Int) (L C : D) (i : Int) : Env := [(0, .v (.str s)), (1, .sl t 1 (zs.map iC)), (2, .v (.int .i64 n)), (6, .v .nils), (7, .v (.int .i64 0)), (10, L), (11, C), (12, .v (.int .i64 i))]

abbrev e24 (s : ByteArray) (t : Tag) (zs : List Int) (n : Int) (L C : D) (i p j : Int) : Env := [(0, .v (.str s)), (1, .sl t 1 (zs.map iC)), (2, .v (.int .i64 n)), (6, .v .nils), (7, .v (.int .i64 0)), (10, L), (11, C), (12, .v (.int .i64 i)), (15, .v (.int .i64 p)), (16, .v (.int .i64 j))]

abbrev e30 (t : Tag) (zs : List Int) (C O : D) (j : Int) : Env := [(1, .sl t 1 (zs.map iC)), (6, .v .nils), (7, .v (.int .i64 0)), (11, C), (17, O), (18, .v (.int .i64 j))]

abbrev sR18 (g : Nat) (ls : List Int) (cs : List Bool) : Sto := [.arr 1 g (ls.map iC), .arr 1 0 (cs.map bC)]

theorem rf13 (s : ByteArray) (t : Tag) (zs : List Int) (n : Int) : evBody MB c13 lpC 13 [.v (.str s), .sl t 1 (zs.map iC), .v (.int .i64 n)] [] = (bif decide ((((zs.map iC).length : Nat) : Int) > 64) then some (.tup [.v .nils, .v (.int .i64 8)], []) else (lpC 4 0 (lb MB c13 lpC 13 0 4) (eR4 s t zs n 0) []).bind (contF MB c13 lpC 13 0 4)) := by kernel_rfl

theorem rb4 (s : ByteArray) (t : Tag) (zs : List Int) (n i : Int) : lb MB c13 lpC 13 0 4 (eR4 s t zs n i) [] = (bif decide (i < Int.ofNat (List.map iC zs).length) then 
  (bif decide (0 ≤ i) then 
    (((List.map iC zs)[i.toNat]?).bind fun x => 
      (bif decide (1 ≤ x.length) then 
        ((decE (List.take 1 x)).bind fun x_1 => 
          (bif decide (x_1 ≥ 1) then 
            (bif !decide (x_1 ≤ 1073741824) then some (Ex.ret, [(0, D.v (V.str s)), (1, D.sl t 1 (List.map iC zs)), (2, D.v (V.int IntKind.i64 n)), (6, D.v V.nils), (7, D.v (V.int IntKind.i64 (2))), (8, D.v (V.int IntKind.i64 i))], [])
             else some (Ex.normal, [(0, D.v (V.str s)), (1, D.sl t 1 (List.map iC zs)), (2, D.v (V.int IntKind.i64 n)), (6, D.v V.nils), (7, D.v (V.int IntKind.i64 (0))), (8, D.v (V.int IntKind.i64 (IntKind.i64.wrap (i + 1))))], []))
           else some (Ex.ret, [(0, D.v (V.str s)), (1, D.sl t 1 (List.map iC zs)), (2, D.v (V.int IntKind.i64 n)), (6, D.v V.nils), (7, D.v (V.int IntKind.i64 (2))), (8, D.v (V.int IntKind.i64 i))], [])))
       else none))
   else none)
 else some (Ex.exit 0, [(0, D.v (V.str s)), (1, D.sl t 1 (List.map iC zs)), (2, D.v (V.int IntKind.i64 n)), (6, D.v V.nils), (7, D.v (V.int IntKind.i64 (0))), (8, D.v (V.int IntKind.i64 i))], [])) := by kernel_rfl

theorem rh4 (s : ByteArray) (t : Tag) (zs : List Int) (n i : Int) : head 0 (eR4 s t zs n i) [] = some (eR4 s t zs n i, []) := by kernel_rfl

theorem rk4r (s : ByteArray) (t : Tag) (zs : List Int) (n i : Int) : contF MB c13 lpC 13 0 4 (.ret, eR4x s t zs n i, []) = some (.tup [.v .nils, .v (.int .i64 2)], []) := by kernel_rfl

theorem rk4e (s : ByteArray) (t : Tag) (zs : List Int) (n i : Int) : contF MB c13 lpC 13 0 4 (.exit 0, eR4 s t zs n i, []) = (lpC 9 0 (lb MB c13 lpC 13 0 9) (eR9 s t zs n 1) []).bind (contF MB c13 lpC 13 0 9) := by kernel_rfl

theorem rb9 (s : ByteArray) (t : Tag) (zs : List Int) (n i : Int) : lb MB c13 lpC 13 0 9 (eR9 s t zs n i) [] = (bif decide (i < Int.ofNat (List.map iC zs).length) then 
  (bif decide (0 ≤ i) then 
    (((List.map iC zs)[i.toNat]?).bind fun x => 
      (bif decide (1 ≤ x.length) then 
        ((decE (List.take 1 x)).bind fun x_1 => 
          (bif decide (0 ≤ IntKind.i64.wrap (i - 1)) then 
            (((List.map iC zs)[(IntKind.i64.wrap (i - 1)).toNat]?).bind fun x_2 => 
              (bif decide (1 ≤ x_2.length) then 
                ((decE (List.take 1 x_2)).bind fun x_3 => 
                  (bif decide (x_1 ≤ x_3) then some (Ex.ret, [(0, D.v (V.str s)), (1, D.sl t 1 (List.map iC zs)), (2, D.v (V.int IntKind.i64 n)), (6, D.v V.nils), (7, D.v (V.int IntKind.i64 (5))), (9, D.v (V.int IntKind.i64 i))], [])
                   else some (Ex.normal, [(0, D.v (V.str s)), (1, D.sl t 1 (List.map iC zs)), (2, D.v (V.int IntKind.i64 n)), (6, D.v V.nils), (7, D.v (V.int IntKind.i64 (0))), (9, D.v (V.int IntKind.i64 (IntKind.i64.wrap (i + 1))))], [])))
               else none))
           else none))
       else none))
   else none)
 else some (Ex.exit 2, [(0, D.v (V.str s)), (1, D.sl t 1 (List.map iC zs)), (2, D.v (V.int IntKind.i64 n)), (6, D.v V.nils), (7, D.v (V.int IntKind.i64 (0))), (9, D.v (V.int IntKind.i64 i))], [])) := by kernel_rfl

theorem rh9 (s : ByteArray) (t : Tag) (zs : List Int) (n i : Int) : head 0 (eR9 s t zs n i) [] = some (eR9 s t zs n i, []) := by kernel_rfl

theorem rk9r (s : ByteArray) (t : Tag) (zs : List Int) (n i : Int) : contF MB c13 lpC 13 0 9 (.ret, eR9x s t zs n i, []) = some (.tup [.v .nils, .v (.int .i64 5)], []) := by kernel_rfl

theorem rk9e0 (s : ByteArray) (t : Tag) (n i : Int) : contF MB c13 lpC 13 0 9 (.exit 2, eR9 s t [] n i, []) = (bif decide (n ≥ 0) then (bif !decide (n ≤ 0) then some (.tup [.v .nils, .v (.int .i64 15)], []) else (lpC 18 0 (lb MB c13 lpC 13 0 18) (e18 s t [] n (.sl .full 1 []) (.rs 0 0 1 0 0) 0) [.arr 1 0 (([] : List Bool).map bC)]).bind (contF MB c13 lpC 13 0 18)) else some (.tup [.v .nils, .v (.int .i64 15)], [])) := by kernel_rfl

theorem rk9e1 (s : ByteArray) (t : Tag) (z : Int) (zs : List Int) (n i : Int) : contF MB c13 lpC 13 0 9 (.exit 2, eR9 s t (z :: zs) n i, []) = (bif decide (n ≥ 0) then (bif !decide (n ≤ (((z :: zs).map iC).length : Nat)) then some (.tup [.v .nils, .v (.int .i64 15)], []) else (bif room 8 (0 + ((z :: zs).map iC).length) then (bif room 1 ((((z :: zs).map iC).length : Nat) : Int).toNat && decide (((((z :: zs).map iC).length : Nat) : Int).toNat ≤ ((((z :: zs).map iC).length : Nat) : Int).toNat) then
  (lpC 18 0 (lb MB c13 lpC 13 0 18) (e18 s t (z :: zs) n (.rs 0 0 1 0 (0 + ((z :: zs).map iC).length)) (.rs 1 0 1 0 ((((z :: zs).map iC).length : Nat) : Int).toNat) 0) [.arr 1 0 ((z :: zs).map iC), .arr 1 0 (List.replicate ((((z :: zs).map iC).length : Nat) : Int).toNat (bC false))]).bind (contF MB c13 lpC 13 0 18) else none) else none)) else some (.tup [.v .nils, .v (.int .i64 15)], [])) := by kernel_rfl

theorem rb24 (s : ByteArray) (t : Tag) (zs ls : List Int) (cs : List Bool) (n i p j : Int) (g m k : Nat) : lb MB c13 lpC 13 0 24 (e24 s t zs n (.rs 0 g 1 0 m) (.rs 1 0 1 0 k) i p j) (sR18 g ls cs) = (bif decide (j < Int.ofNat (List.map iC zs).length) then 
  (bif decide (0 ≤ j) then 
    (bif decide (j.toNat < k) then 
      (((List.map bC cs)[0 + j.toNat]?).bind fun x => 
        (bif decide (1 ≤ x.length) then 
          ((decB (List.take 1 x)).bind fun x_1 => 
            (bif x_1 then 
              (bif decide (0 ≤ j) then 
                (bif decide (j.toNat < k) then 
                  (((List.map bC cs)[0 + j.toNat]?).bind fun x_2 => 
                    (bif decide (1 ≤ x_2.length) then some (Ex.normal, [(0, D.v (V.str s)), (1, D.sl t 1 (List.map iC zs)), (2, D.v (V.int IntKind.i64 n)), (6, D.v V.nils), (7, D.v (V.int IntKind.i64 (0))), (10, D.rs 0 g 1 0 m), (11, D.rs 1 0 1 0 k), (12, D.v (V.int IntKind.i64 i)), (15, D.v (V.int IntKind.i64 p)), (16, D.v (V.int IntKind.i64 (IntKind.i64.wrap (j + 1))))], [Row.arr 1 g (List.map iC ls), Row.arr 1 0 ((List.map bC cs).set (0 + j.toNat) (setRange x_2 0 [V.bool true]))])
                     else none))
                 else none)
               else none)
             else 
              (bif decide (0 ≤ j) then 
                (((List.map iC zs)[j.toNat]?).bind fun x_2 => 
                  (bif decide (1 ≤ x_2.length) then 
                    ((decE (List.take 1 x_2)).bind fun x_3 => 
                      (bif decide (0 ≤ p) then 
                        (bif decide (p.toNat < m) then 
                          (bif decide (g = g) then 
                            (((List.map iC ls)[0 + p.toNat]?).bind fun x_4 => 
                              (bif decide (1 ≤ x_4.length) then 
                                ((decE (List.take 1 x_4)).bind fun x_5 => 
                                  (bif decide (0 ≤ j) then 
                                    (bif decide (j.toNat < k) then 
                                      (((List.map bC cs)[0 + j.toNat]?).bind fun x_6 => 
                                        (bif decide (0 + (0 + 1) ≤ x_6.length) then some (Ex.normal, [(0, D.v (V.str s)), (1, D.sl t 1 (List.map iC zs)), (2, D.v (V.int IntKind.i64 n)), (6, D.v V.nils), (7, D.v (V.int IntKind.i64 (0))), (10, D.rs 0 g 1 0 m), (11, D.rs 1 0 1 0 k), (12, D.v (V.int IntKind.i64 i)), (15, D.v (V.int IntKind.i64 p)), (16, D.v (V.int IntKind.i64 (IntKind.i64.wrap (j + 1))))], [Row.arr 1 g (List.map iC ls), Row.arr 1 0 ((List.map bC cs).set (0 + j.toNat) (setRange x_6 0 [V.bool (decide (x_3 = x_5))]))])
                                         else none))
                                     else none)
                                   else none))
                               else none))
                           else none)
                         else none)
                       else none))
                   else none))
               else none)))
         else none))
     else none)
   else none)
 else some (Ex.exit 6, [(0, D.v (V.str s)), (1, D.sl t 1 (List.map iC zs)), (2, D.v (V.int IntKind.i64 n)), (6, D.v V.nils), (7, D.v (V.int IntKind.i64 (0))), (10, D.rs 0 g 1 0 m), (11, D.rs 1 0 1 0 k), (12, D.v (V.int IntKind.i64 i)), (15, D.v (V.int IntKind.i64 p)), (16, D.v (V.int IntKind.i64 j))], [Row.arr 1 g (List.map iC ls), Row.arr 1 0 (List.map bC cs)])) := by kernel_rfl

theorem rh24 (s : ByteArray) (t : Tag) (zs ls : List Int) (cs : List Bool) (n i p j : Int) (g m k : Nat) : head 0 (e24 s t zs n (.rs 0 g 1 0 m) (.rs 1 0 1 0 k) i p j) (sR18 g ls cs) = some (e24 s t zs n (.rs 0 g 1 0 m) (.rs 1 0 1 0 k) i p j, sR18 g ls cs) := by kernel_rfl

theorem rh18 (s : ByteArray) (t : Tag) (zs ls : List Int) (cs : List Bool) (n i : Int) (g m k : Nat) : head 0 (e18 s t zs n (.rs 0 g 1 0 m) (.rs 1 0 1 0 k) i) (sR18 g ls cs) = some (e18 s t zs n (.rs 0 g 1 0 m) (.rs 1 0 1 0 k) i, sR18 g ls cs) := by kernel_rfl

theorem rh18x (s : ByteArray) (t : Tag) (zs ls ls2 : List Int) (cs : List Bool) (n i : Int) (g g2 m k : Nat) : head 0 (e18 s t zs n (.rs 2 g2 1 0 m) (.rs 1 0 1 0 k) i) [.arr 1 g (ls.map iC), .arr 1 0 (cs.map bC), .arr 1 g2 (ls2.map iC)] = some (e18 s t zs n (.rs 0 g2 1 0 m) (.rs 1 0 1 0 k) i, sR18 g2 ls2 cs) := by kernel_rfl

theorem rh18n (s : ByteArray) (t : Tag) (zs : List Int) (cs : List Bool) (n i : Int) (k : Nat) : head 0 (e18 s t zs n (.sl .full 1 []) (.rs 0 0 1 0 k) i) [.arr 1 0 (cs.map bC)] = some (e18 s t zs n (.sl .full 1 []) (.rs 0 0 1 0 k) i, [.arr 1 0 (cs.map bC)]) := by kernel_rfl

theorem rh18nx (s : ByteArray) (t : Tag) (zs ls : List Int) (cs : List Bool) (n i : Int) (g k : Nat) : head 0 (e18 s t zs n (.sl .full 1 []) (.rs 1 0 1 0 k) i) (sR18 g ls cs) = some (e18 s t zs n (.sl .full 1 []) (.rs 0 0 1 0 k) i, [.arr 1 0 (cs.map bC)]) := by kernel_rfl

def pR (a b c d : UInt8) (m : Nat) : Int := (IntKind.i64.wrap (IntKind.i64.wrap (IntKind.i64.wrap (IntKind.i64.wrap (Int.ofNat a.toNat) + IntKind.i64.wrap (IntKind.i64.wrap (Int.ofNat b.toNat) * 2 ^ min (Int.toNat 8) IntKind.i64.bits)) + IntKind.i64.wrap (IntKind.i64.wrap (Int.ofNat c.toNat) * 2 ^ min (Int.toNat 16) IntKind.i64.bits)) + IntKind.i64.wrap (IntKind.i64.wrap (Int.ofNat d.toNat) * 2 ^ min (Int.toNat 24) IntKind.i64.bits))).tmod (m : Int)

theorem rb18 (s : ByteArray) (t : Tag) (zs ls : List Int) (cs : List Bool) (n i : Int) (g m k : Nat) : lb MB c13 lpC 13 0 18 (e18 s t zs n (.rs 0 g 1 0 m) (.rs 1 0 1 0 k) i) (sR18 g ls cs) =
  bif decide (i < n) then bif catOk s ⟨#[32]⟩ then bif in18 i then bif catOk (s.append ⟨#[32]⟩) (itoaB i) then bif Nat.ble (seedT s i).size 1000000 then
    ((digestB (seedT s i)).toList[0]?).bind fun a => ((digestB (seedT s i)).toList[1]?).bind fun b => ((digestB (seedT s i)).toList[2]?).bind fun c => ((digestB (seedT s i)).toList[3]?).bind fun d =>
      bif decide ((m : Int) = 0) then none else (lpC 24 0 (lb MB c13 lpC 13 0 24) (e24 s t zs n (.rs 0 g 1 0 m) (.rs 1 0 1 0 k) i (pR a b c d m) 0) (sR18 g ls cs)).bind (contB MB c13 lpC 13 0 18 24)
  else none else none else none else none
  else some (.exit 4, e18 s t zs n (.rs 0 g 1 0 m) (.rs 1 0 1 0 k) i, sR18 g ls cs) := by kernel_rfl

theorem rb18n (s : ByteArray) (t : Tag) (zs : List Int) (cs : List Bool) (n i : Int) (k : Nat) : lb MB c13 lpC 13 0 18 (e18 s t zs n (.sl .full 1 []) (.rs 0 0 1 0 k) i) [.arr 1 0 (cs.map bC)] = (bif decide (i < n) then 
  (bif catOk s { data := { toList := [UInt8.ofNat 32] } } then 
    (bif decide (0 ≤ i) && decide (i < 1000000000000000000) then 
      (bif catOk (s.append { data := { toList := [UInt8.ofNat 32] } }) (itoaB i) then 
        (bif ((s.append { data := { toList := [UInt8.ofNat 32] } }).append (itoaB i)).size.ble 1000000 then 
          (((digestB ((s.append { data := { toList := [UInt8.ofNat 32] } }).append (itoaB i))).toList[0]?).bind fun x => 
            (((digestB ((s.append { data := { toList := [UInt8.ofNat 32] } }).append (itoaB i))).toList[1]?).bind fun x_1 => 
              (((digestB ((s.append { data := { toList := [UInt8.ofNat 32] } }).append (itoaB i))).toList[2]?).bind fun x_2 => 
                (((digestB ((s.append { data := { toList := [UInt8.ofNat 32] } }).append (itoaB i))).toList[3]?).bind fun x_3 => none))))
         else none)
       else none)
     else none)
   else none)
 else some (Ex.exit 4, [(0, D.v (V.str s)), (1, D.sl t 1 (List.map iC zs)), (2, D.v (V.int IntKind.i64 n)), (6, D.v V.nils), (7, D.v (V.int IntKind.i64 (0))), (10, D.sl Tag.full 1 []), (11, D.rs 0 0 1 0 k), (12, D.v (V.int IntKind.i64 i))], [Row.arr 1 0 (List.map bC cs)])) := by kernel_rfl

theorem rkA0 (s : ByteArray) (t : Tag) (zs : List Int) (x : Int) (cs : List Bool) (n i j : Int) (g k : Nat) : contB MB c13 lpC 13 0 18 24 (.exit 6, e24 s t zs n (.rs 0 g 1 0 1) (.rs 1 0 1 0 k) i 0 j, sR18 g [x] cs) = (bif decide (g = g) then 
  (bif decide (g = g) then 
    (bif decide (g = g) then 
      (bif decide (g = g) then some (Ex.normal, [(0, D.v (V.str s)), (1, D.sl t 1 (List.map iC zs)), (2, D.v (V.int IntKind.i64 n)), (6, D.v V.nils), (7, D.v (V.int IntKind.i64 (0))), (10, D.sl Tag.full 1 []), (11, D.rs 1 0 1 0 k), (12, D.v (V.int IntKind.i64 (IntKind.i64.wrap (i + 1))))], [Row.arr 1 g [[V.int IntKind.i64 x]], Row.arr 1 0 (List.map bC cs)])
       else none)
     else none)
   else none)
 else none) := by kernel_rfl

theorem rkA1 (s : ByteArray) (t : Tag) (zs ls : List Int) (x y : Int) (cs : List Bool) (n i j : Int) (g m k : Nat) : contB MB c13 lpC 13 0 18 24 (.exit 6, e24 s t zs n (.rs 0 g 1 0 (m + 2)) (.rs 1 0 1 0 k) i 0 j, sR18 g (x :: y :: ls) cs) = (bif decide (g = g) then 
  (bif decide (g = g) then 
    (bif decide (g = g) then 
      (bif decide (1 ≤ m + 2) && decide (0 + (m + 2) ≤ (List.map iC ls).length + 1 + 1) then 
        (bif decide (g = g) then 
          (bif room 8 (0 + (window ([V.int IntKind.i64 x] :: [V.int IntKind.i64 y] :: List.map iC ls) 1 (m + 2 - 1)).length) then some (Ex.normal, [(0, D.v (V.str s)), (1, D.sl t 1 (List.map iC zs)), (2, D.v (V.int IntKind.i64 n)), (6, D.v V.nils), (7, D.v (V.int IntKind.i64 (0))), (10, D.rs (0 + 1 + 1) 0 1 0 (0 + (window ([V.int IntKind.i64 x] :: [V.int IntKind.i64 y] :: List.map iC ls) 1 (m + 2 - 1)).length)), (11, D.rs 1 0 1 0 k), (12, D.v (V.int IntKind.i64 (IntKind.i64.wrap (i + 1))))], [Row.arr 1 g ([V.int IntKind.i64 x] :: [V.int IntKind.i64 y] :: List.map iC ls), Row.arr 1 0 (List.map bC cs), Row.arr 1 0 (window ([V.int IntKind.i64 x] :: [V.int IntKind.i64 y] :: List.map iC ls) 1 (m + 2 - 1))])
           else none)
         else none)
       else none)
     else none)
   else none)
 else none) := by kernel_rfl

theorem rkB (s : ByteArray) (t : Tag) (zs ls : List Int) (x : Int) (cs : List Bool) (n i j : Int) (g m k p : Nat) : contB MB c13 lpC 13 0 18 24 (.exit 6, e24 s t zs n (.rs 0 g 1 0 m) (.rs 1 0 1 0 k) i (Int.ofNat (p + 1)) j, sR18 g (x :: ls) cs) = (bif decide (g = g) then 
  (bif decide (0 ≤ (Int.ofNat (p + 1)).toNat) && decide (0 + (Int.ofNat (p + 1)).toNat ≤ (List.map iC ls).length + 1) then 
    (bif decide (g = g) then 
      (bif room 8 (0 + (window ([V.int IntKind.i64 x] :: List.map iC ls) 0 ((Int.ofNat (p + 1)).toNat - 0)).length) then 
        (bif decide (g = g) then 
          (bif decide (0 ≤ IntKind.i64.wrap (Int.ofNat (p + 1) + 1)) then 
            (bif decide ((IntKind.i64.wrap (Int.ofNat (p + 1) + 1)).toNat ≤ m) && decide (0 + m ≤ (List.map iC ls).length + 1) then 
              (bif decide (g = g) then 
                (bif room 8 ((window ([V.int IntKind.i64 x] :: List.map iC ls) 0 ((Int.ofNat (p + 1)).toNat - 0)).length + (window ([V.int IntKind.i64 x] :: List.map iC ls) (0 + (IntKind.i64.wrap (Int.ofNat (p + 1) + 1)).toNat) (m - (IntKind.i64.wrap (Int.ofNat (p + 1) + 1)).toNat)).length) then 
                  (bif decide (0 + (0 + (window ([V.int IntKind.i64 x] :: List.map iC ls) 0 ((Int.ofNat (p + 1)).toNat - 0)).length) + (window ([V.int IntKind.i64 x] :: List.map iC ls) (0 + (IntKind.i64.wrap (Int.ofNat (p + 1) + 1)).toNat) (m - (IntKind.i64.wrap (Int.ofNat (p + 1) + 1)).toNat)).length ≤ (window ([V.int IntKind.i64 x] :: List.map iC ls) 0 ((Int.ofNat (p + 1)).toNat - 0)).length) then some (Ex.normal, [(0, D.v (V.str s)), (1, D.sl t 1 (List.map iC zs)), (2, D.v (V.int IntKind.i64 n)), (6, D.v V.nils), (7, D.v (V.int IntKind.i64 (0))), (10, D.rs (0 + 1 + 1) 0 1 0 (0 + (window ([V.int IntKind.i64 x] :: List.map iC ls) 0 ((Int.ofNat (p + 1)).toNat - 0)).length + (window ([V.int IntKind.i64 x] :: List.map iC ls) (0 + (IntKind.i64.wrap (Int.ofNat (p + 1) + 1)).toNat) (m - (IntKind.i64.wrap (Int.ofNat (p + 1) + 1)).toNat)).length)), (11, D.rs 1 0 1 0 k), (12, D.v (V.int IntKind.i64 (IntKind.i64.wrap (i + 1))))], [Row.arr 1 g ([V.int IntKind.i64 x] :: List.map iC ls), Row.arr 1 0 (List.map bC cs), Row.arr 1 0 (setRange (window ([V.int IntKind.i64 x] :: List.map iC ls) 0 ((Int.ofNat (p + 1)).toNat - 0)) (0 + (0 + (window ([V.int IntKind.i64 x] :: List.map iC ls) 0 ((Int.ofNat (p + 1)).toNat - 0)).length)) (window ([V.int IntKind.i64 x] :: List.map iC ls) (0 + (IntKind.i64.wrap (Int.ofNat (p + 1) + 1)).toNat) (m - (IntKind.i64.wrap (Int.ofNat (p + 1) + 1)).toNat)))])
                   else 
                    (bif decide (0 + (0 + (window ([V.int IntKind.i64 x] :: List.map iC ls) 0 ((Int.ofNat (p + 1)).toNat - 0)).length) = (window ([V.int IntKind.i64 x] :: List.map iC ls) 0 ((Int.ofNat (p + 1)).toNat - 0)).length) then some (Ex.normal, [(0, D.v (V.str s)), (1, D.sl t 1 (List.map iC zs)), (2, D.v (V.int IntKind.i64 n)), (6, D.v V.nils), (7, D.v (V.int IntKind.i64 (0))), (10, D.rs (0 + 1 + 1) 1 1 0 (0 + (window ([V.int IntKind.i64 x] :: List.map iC ls) 0 ((Int.ofNat (p + 1)).toNat - 0)).length + (window ([V.int IntKind.i64 x] :: List.map iC ls) (0 + (IntKind.i64.wrap (Int.ofNat (p + 1) + 1)).toNat) (m - (IntKind.i64.wrap (Int.ofNat (p + 1) + 1)).toNat)).length)), (11, D.rs 1 0 1 0 k), (12, D.v (V.int IntKind.i64 (IntKind.i64.wrap (i + 1))))], [Row.arr 1 g ([V.int IntKind.i64 x] :: List.map iC ls), Row.arr 1 0 (List.map bC cs), Row.arr 1 1 ((window ([V.int IntKind.i64 x] :: List.map iC ls) 0 ((Int.ofNat (p + 1)).toNat - 0)).append (window ([V.int IntKind.i64 x] :: List.map iC ls) (0 + (IntKind.i64.wrap (Int.ofNat (p + 1) + 1)).toNat) (m - (IntKind.i64.wrap (Int.ofNat (p + 1) + 1)).toNat)))])
                     else none))
                 else none)
               else none)
             else none)
           else none)
         else none)
       else none)
     else none)
   else none)
 else none) := by kernel_rfl

theorem rk18r (s : ByteArray) (t : Tag) (zs ls : List Int) (cs : List Bool) (n i : Int) (g m k : Nat) : contF MB c13 lpC 13 0 18 (.exit 4, e18 s t zs n (.rs 0 g 1 0 m) (.rs 1 0 1 0 k) i, sR18 g ls cs) = (lpC 30 0 (lb MB c13 lpC 13 0 30) (e30 t zs (.rs 1 0 1 0 k) (.v .nils) 0) (sR18 g ls cs)).bind (contF MB c13 lpC 13 0 30) := by kernel_rfl

theorem rk18n (s : ByteArray) (t : Tag) (zs : List Int) (cs : List Bool) (n i : Int) (k : Nat) : contF MB c13 lpC 13 0 18 (.exit 4, e18 s t zs n (.sl .full 1 []) (.rs 0 0 1 0 k) i, [.arr 1 0 (cs.map bC)]) = (lpC 30 0 (lb MB c13 lpC 13 0 30) (e30 t zs (.rs 0 0 1 0 k) (.v .nils) 0) [.arr 1 0 (cs.map bC)]).bind (contF MB c13 lpC 13 0 30) := by kernel_rfl

theorem rh30x (t : Tag) (zs ls : List Int) (cs : List Bool) (g k : Nat) (j : Int) : head 0 (e30 t zs (.rs 1 0 1 0 k) (.v .nils) j) (sR18 g ls cs) = some (e30 t zs (.rs 0 0 1 0 k) (.v .nils) j, [.arr 1 0 (cs.map bC)]) := by kernel_rfl

theorem rh30n (t : Tag) (zs : List Int) (cs : List Bool) (k : Nat) (j : Int) : head 0 (e30 t zs (.rs 0 0 1 0 k) (.v .nils) j) [.arr 1 0 (cs.map bC)] = some (e30 t zs (.rs 0 0 1 0 k) (.v .nils) j, [.arr 1 0 (cs.map bC)]) := by kernel_rfl

theorem rh30r (t : Tag) (zs os : List Int) (cs : List Bool) (k g m : Nat) (j : Int) : head 0 (e30 t zs (.rs 0 0 1 0 k) (.rs 1 g 1 0 m) j) [.arr 1 0 (cs.map bC), .arr 1 g (os.map iC)] = some (e30 t zs (.rs 0 0 1 0 k) (.rs 1 g 1 0 m) j, [.arr 1 0 (cs.map bC), .arr 1 g (os.map iC)]) := by kernel_rfl

theorem rb30n (t : Tag) (zs : List Int) (cs : List Bool) (k : Nat) (j : Int) : lb MB c13 lpC 13 0 30 (e30 t zs (.rs 0 0 1 0 k) (.v .nils) j) [.arr 1 0 (cs.map bC)] = (bif decide (j < Int.ofNat (List.map iC zs).length) then 
  (bif decide (0 ≤ j) then 
    (bif decide (j.toNat < k) then 
      (((List.map bC cs)[0 + j.toNat]?).bind fun x => 
        (bif decide (1 ≤ x.length) then 
          ((decB (List.take 1 x)).bind fun x_1 => 
            (bif x_1 then 
              (bif decide (0 ≤ j) then 
                (((List.map iC zs)[j.toNat]?).bind fun x_2 => 
                  (bif decide (1 ≤ x_2.length) then 
                    ((decE (List.take 1 x_2)).bind fun x_3 => some (Ex.normal, [(1, D.sl t 1 (List.map iC zs)), (6, D.v V.nils), (7, D.v (V.int IntKind.i64 (0))), (11, D.rs 0 0 1 0 k), (17, D.rs (0 + 1) 0 1 0 (0 + 1)), (18, D.v (V.int IntKind.i64 (IntKind.i64.wrap (j + 1))))], [Row.arr 1 0 (List.map bC cs), Row.arr 1 0 [[V.int IntKind.i64 x_3]]]))
                   else none))
               else none)
             else some (Ex.normal, [(1, D.sl t 1 (List.map iC zs)), (6, D.v V.nils), (7, D.v (V.int IntKind.i64 (0))), (11, D.rs 0 0 1 0 k), (17, D.v V.nils), (18, D.v (V.int IntKind.i64 (IntKind.i64.wrap (j + 1))))], [Row.arr 1 0 (List.map bC cs)])))
         else none))
     else none)
   else none)
 else some (Ex.exit 8, [(1, D.sl t 1 (List.map iC zs)), (6, D.v V.nils), (7, D.v (V.int IntKind.i64 (0))), (11, D.rs 0 0 1 0 k), (17, D.v V.nils), (18, D.v (V.int IntKind.i64 j))], [Row.arr 1 0 (List.map bC cs)])) := by kernel_rfl

theorem rb30r (t : Tag) (zs os : List Int) (cs : List Bool) (k g m : Nat) (j : Int) : lb MB c13 lpC 13 0 30 (e30 t zs (.rs 0 0 1 0 k) (.rs 1 g 1 0 m) j) [.arr 1 0 (cs.map bC), .arr 1 g (os.map iC)] = (bif decide (j < Int.ofNat (List.map iC zs).length) then 
  (bif decide (0 ≤ j) then 
    (bif decide (j.toNat < k) then 
      (((List.map bC cs)[0 + j.toNat]?).bind fun x => 
        (bif decide (1 ≤ x.length) then 
          ((decB (List.take 1 x)).bind fun x_1 => 
            (bif x_1 then 
              (bif decide (0 ≤ j) then 
                (((List.map iC zs)[j.toNat]?).bind fun x_2 => 
                  (bif decide (1 ≤ x_2.length) then 
                    ((decE (List.take 1 x_2)).bind fun x_3 => 
                      (bif decide (g = g) then 
                        (bif room 8 ((List.map iC os).length + (0 + 1)) then 
                          (bif decide (0 + m + (0 + 1) ≤ (List.map iC os).length) then some (Ex.normal, [(1, D.sl t 1 (List.map iC zs)), (6, D.v V.nils), (7, D.v (V.int IntKind.i64 (0))), (11, D.rs 0 0 1 0 k), (17, D.rs 1 g 1 0 (m + (0 + 1))), (18, D.v (V.int IntKind.i64 (IntKind.i64.wrap (j + 1))))], [Row.arr 1 0 (List.map bC cs), Row.arr 1 g (setRange (List.map iC os) (0 + m) [[V.int IntKind.i64 x_3]])])
                           else 
                            (bif decide (0 + m = (List.map iC os).length) then some (Ex.normal, [(1, D.sl t 1 (List.map iC zs)), (6, D.v V.nils), (7, D.v (V.int IntKind.i64 (0))), (11, D.rs 0 0 1 0 k), (17, D.rs 1 (g + 1) 1 0 (m + (0 + 1))), (18, D.v (V.int IntKind.i64 (IntKind.i64.wrap (j + 1))))], [Row.arr 1 0 (List.map bC cs), Row.arr 1 (g + 1) ((List.map iC os).append [[V.int IntKind.i64 x_3]])])
                             else none))
                         else none)
                       else none))
                   else none))
               else none)
             else some (Ex.normal, [(1, D.sl t 1 (List.map iC zs)), (6, D.v V.nils), (7, D.v (V.int IntKind.i64 (0))), (11, D.rs 0 0 1 0 k), (17, D.rs 1 g 1 0 m), (18, D.v (V.int IntKind.i64 (IntKind.i64.wrap (j + 1))))], [Row.arr 1 0 (List.map bC cs), Row.arr 1 g (List.map iC os)])))
         else none))
     else none)
   else none)
 else some (Ex.exit 8, [(1, D.sl t 1 (List.map iC zs)), (6, D.v V.nils), (7, D.v (V.int IntKind.i64 (0))), (11, D.rs 0 0 1 0 k), (17, D.rs 1 g 1 0 m), (18, D.v (V.int IntKind.i64 j))], [Row.arr 1 0 (List.map bC cs), Row.arr 1 g (List.map iC os)])) := by kernel_rfl

theorem rk30n (t : Tag) (zs : List Int) (cs : List Bool) (k : Nat) (j : Int) : contF MB c13 lpC 13 0 30 (.exit 8, e30 t zs (.rs 0 0 1 0 k) (.v .nils) j, [.arr 1 0 (cs.map bC)]) = some (.tup [.v .nils, .v (.int .i64 0)], []) := by kernel_rfl

theorem rk30r (t : Tag) (zs os : List Int) (cs : List Bool) (k g m : Nat) (j : Int) : contF MB c13 lpC 13 0 30 (.exit 8, e30 t zs (.rs 0 0 1 0 k) (.rs 1 g 1 0 m) j, [.arr 1 0 (cs.map bC), .arr 1 g (os.map iC)]) = some (.tup [.rs 0 g 1 0 m, .v (.int .i64 0)], [.arr 1 g (os.map iC)]) := by kernel_rfl

end Go.Ab
