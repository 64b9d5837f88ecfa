/- officer.Sample: what it calls. -/
import Derived.Test.YtbhlffhfmgnleaaGreatDoorWD1
set_option linter.all false
namespace Go.Ab
open Go Go.Proofs
set_option maxRecDepth 100000
def yl11 : List (FuncId × SumF) := [(12, clM 1 8), (17, y17), (18, y18), (33, y33), (35, y35), (36, s36)]
theorem yl11_ok : ∀ p ∈ yl11, SumFOk PO p.1 p.2 := sumsC o12 (sumsC oy17 (sumsC oy18 (sumsC oy33 (sumsC oy35 (sumsC o36 sums0)))))
noncomputable def c11 : CallerK := evT MZ yl11 [28, 29] 5
theorem c11_ok : CallerKOk PO c11 := evT_ok (M := MZ) mz_mixed yl11_ok yin1 5
end Go.Ab

/- officer.Sample: a round of picking. -/
namespace Go.Ab
open Go Go.Proofs
set_option maxRecDepth 100000
def le32 (a b c d : UInt8) : Int :=
  IntKind.u32.wrap (Int.ofNat (BitVec.ofInt 32 (IntKind.u32.wrap (Int.ofNat (BitVec.ofInt 32 (IntKind.u32.wrap (Int.ofNat (BitVec.ofInt 32 (IntKind.u32.wrap (Int.ofNat a.1.toNat)) ||| BitVec.ofInt 32 (IntKind.u32.wrap (IntKind.u32.wrap (Int.ofNat b.1.toNat) * Int.ofNat 256))).toNat)) ||| BitVec.ofInt 32 (IntKind.u32.wrap (IntKind.u32.wrap (Int.ofNat c.1.toNat) * Int.ofNat 65536))).toNat)) ||| BitVec.ofInt 32 (IntKind.u32.wrap (IntKind.u32.wrap (Int.ofNat d.1.toNat) * Int.ofNat 16777216))).toNat)
def pickI (a b c d : UInt8) (m : Nat) : Int := IntKind.i64.wrap ((le32 a b c d).tmod (IntKind.u32.wrap (Int.ofNat m)))
def seedT (s : ByteArray) (i : Int) : ByteArray := (s.append ⟨#[32]⟩).append (itoaB i)
abbrev e15 (s : ByteArray) (m : Nat) (o : D) (n i : Int) : Env := [(0, .v (.str s)), (6, .v .nils), (7, .v (.int .i64 0)), (9, .rs 0 0 1 0 m), (10, o), (43, .v (.int .i64 n)), (44, .v (.int .i64 i))]
def dgs (s : ByteArray) (i : Int) (k : UInt8 → UInt8 → UInt8 → UInt8 → Option Out) : Option Out :=
  bif inI i then bif catOk s ⟨#[32]⟩ then bif catOk (s.append ⟨#[32]⟩) (itoaB i) then
    ((digestB (seedT s i)).toList[0]?).bind fun a => ((digestB (seedT s i)).toList[1]?).bind fun b => ((digestB (seedT s i)).toList[2]?).bind fun c => ((digestB (seedT s i)).toList[3]?).bind fun d => k a b c d
  else none else none else none
theorem b15a (s : ByteArray) (zs : List Int) (m : Nat) (n i : Int) : lb MZ c11 lpC 11 0 15 (e15 s m (.v .nils) n i) [.arr 1 0 (zs.map iC)] =
    bif decide (i < n) then dgs s i fun a b c d =>
      bif decide (IntKind.u32.wrap (m : Int) = 0) then none else
      bif decide (0 ≤ pickI a b c d m) then bif decide ((pickI a b c d m).toNat < m) then
        ((zs.map iC)[0 + (pickI a b c d m).toNat]?).bind fun x => bif decide (1 ≤ x.length) then (decE (x.take 1)).bind fun x5 =>
          (decI (zs.map iC)).bind fun xs => bif Nat.beq 0 0 && (decide (0 ≤ pickI a b c d m) && decide (IntKind.i64.wrap (pickI a b c d m + 1) = pickI a b c d m + 1)) && Nat.blt (pickI a b c d m).toNat m && Nat.ble m xs.length && Nat.ble (xs.length + m) 1000000 then
            some (.normal, e15 s (m - 1) (.rs 1 0 1 0 1) n (IntKind.i64.wrap (i + 1)), [.arr 1 0 (((xs.take m).eraseIdx (pickI a b c d m).toNat ++ 0 :: xs.drop m).map iC), .arr 1 0 [[V.int .i64 x5]]]) else none
        else none else none else none
    else some (.exit 2, e15 s m (.v .nils) n i, [.arr 1 0 (zs.map iC)]) := by kernel_rfl
theorem b15b (s : ByteArray) (zs os : List Int) (m k g : Nat) (n i : Int) : lb MZ c11 lpC 11 0 15 (e15 s m (.rs 1 g 1 0 k) n i) [.arr 1 0 (zs.map iC), .arr 1 g (os.map iC)] =
    bif decide (i < n) then dgs s i fun a b c d =>
      bif decide (IntKind.u32.wrap (m : Int) = 0) then none else
      bif decide (0 ≤ pickI a b c d m) then bif decide ((pickI a b c d m).toNat < m) then
        ((zs.map iC)[0 + (pickI a b c d m).toNat]?).bind fun x => bif decide (1 ≤ x.length) then (decE (x.take 1)).bind fun x5 =>
          bif g == g then bif room 8 ((os.map iC).length + 1) then bif decide (0 + k + 1 ≤ (os.map iC).length) then
            (decI (zs.map iC)).bind fun xs => bif Nat.beq 0 0 && (decide (0 ≤ pickI a b c d m) && decide (IntKind.i64.wrap (pickI a b c d m + 1) = pickI a b c d m + 1)) && Nat.blt (pickI a b c d m).toNat m && Nat.ble m xs.length && Nat.ble (xs.length + m) 1000000 then
              some (.normal, e15 s (m - 1) (.rs 1 g 1 0 (k + 1)) n (IntKind.i64.wrap (i + 1)), [.arr 1 0 (((xs.take m).eraseIdx (pickI a b c d m).toNat ++ 0 :: xs.drop m).map iC), .arr 1 g (setRange (os.map iC) (0 + k) [[V.int .i64 x5]])]) else none
          else bif 0 + k == (os.map iC).length then
            (decI (zs.map iC)).bind fun xs => bif Nat.beq 0 0 && (decide (0 ≤ pickI a b c d m) && decide (IntKind.i64.wrap (pickI a b c d m + 1) = pickI a b c d m + 1)) && Nat.blt (pickI a b c d m).toNat m && Nat.ble m xs.length && Nat.ble (xs.length + m) 1000000 then
              some (.normal, e15 s (m - 1) (.rs 1 (g + 1) 1 0 (k + 1)) n (IntKind.i64.wrap (i + 1)), [.arr 1 0 (((xs.take m).eraseIdx (pickI a b c d m).toNat ++ 0 :: xs.drop m).map iC), .arr 1 (g + 1) (os.map iC ++ [[V.int .i64 x5]])]) else none
          else none else none else none else none
        else none else none
    else some (.exit 2, e15 s m (.rs 1 g 1 0 k) n i, [.arr 1 0 (zs.map iC), .arr 1 g (os.map iC)]) := by kernel_rfl
end Go.Ab

/- What a round picks: in range. -/
namespace Go.Ab
open Go Go.Proofs
set_option maxRecDepth 100000
theorem wrap_u32_lo (x : Int) : 0 ≤ IntKind.u32.wrap x := by
  have h : IntKind.u32.wrap x = if (false && decide (x % 4294967296 ≥ 2147483648)) = true then x % 4294967296 - 4294967296 else x % 4294967296 := rfl
  rw [h]
  simp only [Bool.false_and, Bool.false_eq_true, if_false]
  omega
theorem wrap_u32_hi (x : Int) : IntKind.u32.wrap x < 4294967296 := by
  have h : IntKind.u32.wrap x = if (false && decide (x % 4294967296 ≥ 2147483648)) = true then x % 4294967296 - 4294967296 else x % 4294967296 := rfl
  rw [h]
  simp only [Bool.false_and, Bool.false_eq_true, if_false]
  omega
theorem wrap_u32 {x : Int} (h0 : 0 ≤ x) (h1 : x < 4294967296) : IntKind.u32.wrap x = x := by
  have h : IntKind.u32.wrap x = if (false && decide (x % 4294967296 ≥ 2147483648)) = true then x % 4294967296 - 4294967296 else x % 4294967296 := rfl
  rw [h]
  simp only [Bool.false_and, Bool.false_eq_true, if_false]
  omega
theorem pickI_in (a b c d : UInt8) {m : Nat} (h0 : 0 < m) (h1 : m ≤ 1000000) : 0 ≤ pickI a b c d m ∧ pickI a b c d m < m := by
  unfold pickI
  have hw : IntKind.u32.wrap (Int.ofNat m) = (m : Int) := wrap_u32 (by show (0 : Int) ≤ (m : Int); omega) (by show (m : Int) < _; omega)
  have hl : 0 ≤ le32 a b c d := by unfold le32; exact wrap_u32_lo _
  rw [hw, Int.tmod_eq_emod_of_nonneg hl]
  have p1 := Int.emod_nonneg (le32 a b c d) (b := (m : Int)) (by omega)
  have p2 := Int.emod_lt_of_pos (le32 a b c d) (b := (m : Int)) (by omega)
  rw [wrap_i64 (by omega) (by omega)]
  exact ⟨p1, p2⟩
theorem dig_len (s : ByteArray) : (digestB s).toList.length = 32 := by
  rw [Lib.toList_data]
  unfold digestB
  show (((digGo _ s 0 h0L).map wB).flatten).length = 32
  have h8 := digGo_len (s.size / 64 + 1) s 0 h0L (by rfl)
  generalize digGo (s.size / 64 + 1) s 0 h0L = l at h8
  match l, h8 with
  | [a, b, c, d, e, f, g, h], _ => rfl
def dB (s : ByteArray) (i : Int) (j : Nat) : UInt8 := (digestB (seedT s i)).toList.getD j 0
def fS (s : ByteArray) (i m : Nat) : Nat := (pickI (dB s i 0) (dB s i 1) (dB s i 2) (dB s i 3) m).toNat
theorem dB_get (s : ByteArray) (i : Int) {j : Nat} (hj : j < 32) : (digestB (seedT s i)).toList[j]? = some (dB s i j) := by
  unfold dB
  rw [List.getD_eq_getElem?_getD, List.getElem?_eq_getElem (by rw [dig_len]; exact hj)]
  rfl
theorem fS_pick (s : ByteArray) (i : Nat) {m : Nat} (h0 : 0 < m) (h1 : m ≤ 1000000) : pickI (dB s i 0) (dB s i 1) (dB s i 2) (dB s i 3) m = (fS s i m : Int) ∧ fS s i m < m := by
  have h := pickI_in (dB s i 0) (dB s i 1) (dB s i 2) (dB s i 3) h0 h1
  unfold fS
  omega
theorem dgs_go (s : ByteArray) (i : Nat) (k : UInt8 → UInt8 → UInt8 → UInt8 → Option Out) (hi : i ≤ 1000000) (hs : catOk s ⟨#[32]⟩ = true) (hs2 : catOk (s.append ⟨#[32]⟩) (itoaB i) = true) :
    dgs s (i : Nat) k = k (dB s i 0) (dB s i 1) (dB s i 2) (dB s i 3) := by
  unfold dgs
  have hin : inI (i : Int) = true := by
    unfold inI
    simp only [Bool.and_eq_true, decide_eq_true_eq]
    omega
  rw [hin, hs, hs2, dB_get s i (by omega), dB_get s i (by omega), dB_get s i (by omega), dB_get s i (by omega)]
  rfl
end Go.Ab

/- officer.Sample: its rounds. -/
namespace Go.Ab
open Go Go.Proofs
set_option maxRecDepth 100000
def fP (s : ByteArray) (i m : Nat) : Nat := if m ≤ 1000000 then fS s i m else 0
theorem fP_in (s : ByteArray) : InF (fP s) := fun i n h => by
  unfold fP
  split
  · rename_i h1
    exact (fS_pick s i h h1).2
  · exact h
def leftR (s : ByteArray) (ids : List Int) (i : Nat) : List Int := leftB (fP s) 0 ids i ++ List.replicate i 0
def sto15 (s : ByteArray) (ids : List Int) : Nat → Sto
  | 0 => [.arr 1 0 (ids.map iC)]
  | i + 1 => [.arr 1 0 ((leftR s ids (i + 1)).map iC), .arr 1 i ((picks (fP s) 0 ids (i + 1)).map iC)]
def oD15 : Nat → D
  | 0 => .v .nils
  | i + 1 => .rs 1 i 1 0 (i + 1)
def env15 (s : ByteArray) (ids : List Int) (n i : Nat) : Env := e15 s (ids.length - i) (oD15 i) (n : Nat) (i : Nat)
/-- What a round takes. -/
theorem left_at (L : List Int) (r k : Nat) (hk : k < L.length) : ((L ++ List.replicate r 0).map iC)[0 + k]? = some (iC (L.getD k 0)) := by
  rw [Nat.zero_add, List.getElem?_map, List.getElem?_append_left hk, List.getElem?_eq_getElem hk, List.getD_eq_getElem?_getD, List.getElem?_eq_getElem hk]
  rfl
theorem left_cut (L : List Int) (r k : Nat) (hk : k < L.length) : ((L ++ List.replicate r 0).take L.length).eraseIdx k ++ 0 :: (L ++ List.replicate r 0).drop L.length = L.eraseIdx k ++ List.replicate (r + 1) 0 := by
  rw [List.take_left' rfl, List.drop_left' rfl]
  rfl
theorem go15 (s : ByteArray) (ids : List Int) (n i : Nat) (hn : n ≤ ids.length) (hl : ids.length ≤ 1000) (hs : catOk s ⟨#[32]⟩ = true) (hs2 : ∀ i : Nat, i ≤ 1000 → catOk (s.append ⟨#[32]⟩) (itoaB i) = true) (hi : i < n) :
    lb MZ c11 lpC 11 0 15 (env15 s ids n i) (sto15 s ids i) = some (.normal, env15 s ids n (i + 1), sto15 s ids (i + 1)) := by
  have hL : (leftB (fP s) 0 ids i).length = ids.length - i := leftB_len (fP_in s) i 0 ids (by omega)
  obtain ⟨q1, q2⟩ := fS_pick s i (m := ids.length - i) (by omega) (by omega)
  have hf : fP s i (ids.length - i) = fS s i (ids.length - i) := by unfold fP; rw [if_pos (by omega)]
  have hw : IntKind.u32.wrap ((ids.length - i : Nat) : Int) = ((ids.length - i : Nat) : Int) := wrap_u32 (by omega) (by omega)
  have d0 : decide (((i : Nat) : Int) < (n : Nat)) = true := decide_eq_true (by omega)
  have d1 : decide (IntKind.u32.wrap ((ids.length - i : Nat) : Int) = 0) = false := by rw [hw]; exact decide_eq_false (by omega)
  have d2 : decide (0 ≤ ((fS s i (ids.length - i) : Nat) : Int)) = true := decide_eq_true (by omega)
  have d3 : decide (fS s i (ids.length - i) < ids.length - i) = true := decide_eq_true q2
  have d4 : IntKind.i64.wrap (((fS s i (ids.length - i) : Nat) : Int) + 1) = ((fS s i (ids.length - i) : Nat) : Int) + 1 := wrap_i64 (by omega) (by omega)
  have d5 : IntKind.i64.wrap (((i : Nat) : Int) + 1) = ((i + 1 : Nat) : Int) := by rw [wrap_i64 (by omega) (by omega)]; omega
  have hR : (leftR s ids i).length = ids.length := by unfold leftR; rw [List.length_append, hL, List.length_replicate]; omega
  have hat : ((leftR s ids i).map iC)[0 + fS s i (ids.length - i)]? = some (iC ((leftB (fP s) 0 ids i).getD (fS s i (ids.length - i)) 0)) := left_at _ _ _ (by rw [hL]; exact q2)
  have hcut : ((leftR s ids i).take (ids.length - i)).eraseIdx (fS s i (ids.length - i)) ++ 0 :: (leftR s ids i).drop (ids.length - i) = leftR s ids (i + 1) := by
    have h := left_cut (leftB (fP s) 0 ids i) i (fS s i (ids.length - i)) (by rw [hL]; exact q2)
    rw [hL] at h
    unfold leftR
    rw [h, leftB_snoc, Nat.zero_add, hL, hf]
  have hp : picks (fP s) 0 ids (i + 1) = picks (fP s) 0 ids i ++ [(leftB (fP s) 0 ids i).getD (fS s i (ids.length - i)) 0] := by
    rw [picks_snoc, Nat.zero_add, hL, hf]
  have b1 : Nat.blt (fS s i (ids.length - i)) (ids.length - i) = true := Nat.ble_eq_true_of_le q2
  have b2 : Nat.ble (ids.length - i) (leftR s ids i).length = true := Nat.ble_eq_true_of_le (by omega)
  have b3 : Nat.ble ((leftR s ids i).length + (ids.length - i)) 1000000 = true := Nat.ble_eq_true_of_le (by omega)
  have hlen1 : ∀ z : Int, decide (1 ≤ (iC z).length) = true := fun z => rfl
  have hdec : ∀ z : Int, decE ((iC z).take 1) = some z := fun z => rfl
  cases i with
  | zero =>
    have h0 : leftR s ids 0 = ids := by unfold leftR leftB; simp
    rw [h0] at hat hcut b2 b3
    show lb MZ c11 lpC 11 0 15 (e15 s (ids.length - 0) (.v .nils) (n : Nat) ((0 : Nat) : Int)) [.arr 1 0 (ids.map iC)] = _
    rw [b15a, d0, cond_true, dgs_go s 0 _ (by omega) hs (hs2 0 (by omega)), q1, d1, d2, Int.toNat_natCast, d3, hat]
    simp only [cond_true, cond_false, Option.bind_some, hlen1, hdec]
    rw [decI_map', Option.bind_some, d4, d5, b1, b2, b3]
    simp only [decide_true, Bool.and_self, cond_true]
    rw [show Nat.beq 0 0 = true from rfl]
    simp only [Bool.and_self, cond_true]
    rw [hcut]
    show _ = (some (Ex.normal, e15 s (ids.length - 1) (.rs 1 0 1 0 1) (n : Nat) ((1 : Nat) : Int), [Row.arr 1 0 ((leftR s ids 1).map iC), Row.arr 1 0 ((picks (fP s) 0 ids 1).map iC)]) : Option Out)
    rw [hp]
    rfl
  | succ i =>
    have hpl : ((picks (fP s) 0 ids (i + 1)).map iC).length = i + 1 := by rw [List.length_map, picks_len]
    show lb MZ c11 lpC 11 0 15 (e15 s (ids.length - (i + 1)) (.rs 1 i 1 0 (i + 1)) (n : Nat) ((i + 1 : Nat) : Int)) [.arr 1 0 ((leftR s ids (i + 1)).map iC), .arr 1 i ((picks (fP s) 0 ids (i + 1)).map iC)] = _
    have r1 : room 8 (i + 1 + 1) = true := by unfold room; simp only [Bool.and_eq_true, decide_eq_true_eq]; omega
    have r2 : decide (0 + (i + 1) + 1 ≤ i + 1) = false := decide_eq_false (by omega)
    have r3 : (0 + (i + 1) == i + 1) = true := by simp
    rw [b15b, d0, cond_true, dgs_go s (i + 1) _ (by omega) hs (hs2 (i + 1) (by omega)), q1, d1, d2, Int.toNat_natCast, d3, hat, hpl, r1, r2, r3, beq_self_eq_true i]
    simp only [cond_true, cond_false, Option.bind_some, hlen1, hdec]
    rw [decI_map', Option.bind_some, d4, d5, b1, b2, b3]
    simp only [decide_true, Bool.and_self, cond_true]
    rw [show Nat.beq 0 0 = true from rfl]
    simp only [Bool.and_self, cond_true]
    rw [hcut]
    show _ = (some (Ex.normal, e15 s (ids.length - (i + 1 + 1)) (.rs 1 (i + 1) 1 0 (i + 1 + 1)) (n : Nat) ((i + 1 + 1 : Nat) : Int), [Row.arr 1 0 ((leftR s ids (i + 1 + 1)).map iC), Row.arr 1 (i + 1) ((picks (fP s) 0 ids (i + 1 + 1)).map iC)]) : Option Out)
    rw [hp, List.map_append]
    rfl
end Go.Ab

/- officer.Sample: its other trees. -/
namespace Go.Ab
open Go Go.Proofs
set_option maxRecDepth 100000

abbrev eT (s : ByteArray) (t : Tag) (zs : List Int) (n i : Int) : Env := [(0, .v (.str s)), (1, .sl t 1 (zs.map iC)), (2, .v (.int .i64 n)), (6, .v .nils), (7, .v (.int .i64 0)), (8, .v (.int .i64 i))]

abbrev eT5 (s : ByteArray) (t : Tag) (zs : List Int) (n i : Int) : Env := [(0, .v (.str s)), (1, .sl t 1 (zs.map iC)), (2, .v (.int .i64 n)), (6, .v .nils), (7, .v (.int .i64 5)), (8, .v (.int .i64 i))]

theorem b6s (s : ByteArray) (t : Tag) (zs : List Int) (n i : Int) : lb MZ c11 lpC 11 0 6 (eT s t zs n i) [] = (bif decide (i < Int.ofNat (List.map iC zs).length) then 
  (bif decide (0 ≤ i) then 
    (((List.map iC zs)[i.toNat]?).bind fun x => 
      (bif decide (1 ≤ x.length) then 
        ((decE (List.take 1 x)).bind fun x_1 => 
          (bif decide (0 ≤ IntKind.i64.wrap (i - 1)) then 
            (((List.map iC zs)[(IntKind.i64.wrap (i - 1)).toNat]?).bind fun x_2 => 
              (bif decide (1 ≤ x_2.length) then 
                ((decE (List.take 1 x_2)).bind fun x_3 => 
                  (bif decide (x_1 ≤ x_3) then some (Ex.ret, [(0, D.v (V.str s)), (1, D.sl t 1 (List.map iC zs)), (2, D.v (V.int IntKind.i64 n)), (6, D.v V.nils), (7, D.v (V.int IntKind.i64 (5))), (8, D.v (V.int IntKind.i64 i))], [])
                   else some (Ex.normal, [(0, D.v (V.str s)), (1, D.sl t 1 (List.map iC zs)), (2, D.v (V.int IntKind.i64 n)), (6, D.v V.nils), (7, D.v (V.int IntKind.i64 (0))), (8, D.v (V.int IntKind.i64 (IntKind.i64.wrap (i + 1))))], [])))
               else none))
           else none))
       else none))
   else none)
 else some (Ex.exit 0, [(0, D.v (V.str s)), (1, D.sl t 1 (List.map iC zs)), (2, D.v (V.int IntKind.i64 n)), (6, D.v V.nils), (7, D.v (V.int IntKind.i64 (0))), (8, D.v (V.int IntKind.i64 i))], [])) := by kernel_rfl

theorem h6s (s : ByteArray) (t : Tag) (zs : List Int) (n i : Int) : head 0 (eT s t zs n i) [] = some (eT s t zs n i, []) := by kernel_rfl

theorem k6r (s : ByteArray) (t : Tag) (zs : List Int) (n i : Int) : contF MZ c11 lpC 11 0 6 (.ret, eT5 s t zs n i, []) = some (D.tup [D.v V.nils, D.v (V.int IntKind.i64 (5))], []) := by kernel_rfl

theorem h15n (s : ByteArray) (m : Nat) (n i : Int) (zs : List Int) : head 0 (e15 s m (.v .nils) n i) [.arr 1 0 (zs.map iC)] = some (e15 s m (.v .nils) n i, [.arr 1 0 (zs.map iC)]) := by kernel_rfl

theorem h15r (s : ByteArray) (m g k : Nat) (n i : Int) (zs os : List Int) : head 0 (e15 s m (.rs 1 g 1 0 k) n i) [.arr 1 0 (zs.map iC), .arr 1 g (os.map iC)] = some (e15 s m (.rs 1 g 1 0 k) n i, [.arr 1 0 (zs.map iC), .arr 1 g (os.map iC)]) := by kernel_rfl

theorem k15n (s : ByteArray) (m : Nat) (n i : Int) (zs : List Int) : contF MZ c11 lpC 11 0 15 (.exit 2, e15 s m (.v .nils) n i, [.arr 1 0 (zs.map iC)]) = some (D.tup [D.v V.nils, D.v (V.int IntKind.i64 (0))], []) := by kernel_rfl

theorem k15r (s : ByteArray) (m g k : Nat) (n i : Int) (zs os : List Int) : contF MZ c11 lpC 11 0 15 (.exit 2, e15 s m (.rs 1 g 1 0 k) n i, [.arr 1 0 (zs.map iC), .arr 1 g (os.map iC)]) = ((decI (List.map iC os)).bind fun x => 
  (bif g.beq g && k.beq x.length && Nat.ble 1 k && k.ble 1000000 then some (D.tup [D.rs 0 g 1 0 k, D.v (V.int IntKind.i64 (0))], [Row.arr 1 g (List.map iC (sortI x))])
   else none)) := by kernel_rfl

theorem k6e (s : ByteArray) (t : Tag) (zs : List Int) (n i : Int) : contF MZ c11 lpC 11 0 6 (.exit 0, eT s t zs n i, []) = (bif decide (n ≥ 0) then (bif !decide (n ≤ ((zs.map iC).length : Nat)) then some (.tup [.v .nils, .v (.int .i64 15)], []) else bif room 8 (zs.map iC).length then (lpC 15 0 (lb MZ c11 lpC 11 0 15) (e15 s (zs.map iC).length (.v .nils) n 0) [.arr 1 0 (zs.map iC)]).bind (contF MZ c11 lpC 11 0 15) else none) else some (.tup [.v .nils, .v (.int .i64 15)], [])) := by kernel_rfl

theorem f11 (s : ByteArray) (t : Tag) (zs : List Int) (n : Int) : evBody MZ c11 lpC 11 [.v (.str s), .sl t 1 (zs.map iC), .v (.int .i64 n)] [] = (bif decide ((((zs.map iC).length : Nat) : Int) > 64) then some (.tup [.v .nils, .v (.int .i64 8)], []) else (decI (zs.map iC)).bind fun x => bif Nat.ble x.length 1000000 then (bif x.any badId then some (.tup [.v .nils, .v (.int .i64 2)], []) else (lpC 6 0 (lb MZ c11 lpC 11 0 6) (eT s t zs n 1) []).bind (contF MZ c11 lpC 11 0 6)) else none) := by kernel_rfl

end Go.Ab

/- officer.Sample: what it answers. -/
namespace Go.Ab
open Go Go.Proofs
set_option maxRecDepth 100000
def prs (zs : List Int) : List (Int × Int) := (zs.drop 1).zip zs
def ascB (zs : List Int) : Bool := (prs zs).all fun q => !decide (q.1 ≤ q.2)
theorem prs_len (zs : List Int) : (prs zs).length = zs.length - 1 := by unfold prs; simp
theorem loop6 (s : ByteArray) (t : Tag) (zs : List Int) (n : Int) (hl : zs.length ≤ 1000) :
    (ascB zs = true ∧ ∃ i : Int, lpC 6 0 (lb MZ c11 lpC 11 0 6) (eT s t zs n 1) [] = some (.exit 0, eT s t zs n i, [])) ∨
    (ascB zs = false ∧ ∃ i : Int, lpC 6 0 (lb MZ c11 lpC 11 0 6) (eT s t zs n 1) [] = some (.ret, eT5 s t zs n i, [])) := by
  have h := lpC_scan (id := 6) (k := 0) (body := lb MZ c11 lpC 11 0 6) (prs zs) (fun q => !decide (q.1 ≤ q.2)) (fun i => eT s t zs n ((i + 1 : Nat) : Int)) (fun i => eT5 s t zs n ((i + 1 : Nat) : Int)) [] (e := .exit 0) (e2 := .ret) (Ee := eT s t zs n (((prs zs).length + 1 : Nat) : Int))
    (fun i _ => h6s s t zs n _) (fun i q hq hpx => by
      obtain ⟨x, y⟩ := q
      unfold prs at hq
      obtain ⟨hx, hy⟩ := List.getElem?_zip_eq_some.1 hq
      rw [List.getElem?_drop, Nat.add_comm] at hx
      obtain ⟨hi, hxe⟩ := List.getElem?_eq_some_iff.1 hx
      obtain ⟨hi', hye⟩ := List.getElem?_eq_some_iff.1 hy
      have w1 : IntKind.i64.wrap (((i + 1 : Nat) : Int) - 1) = (i : Int) := by rw [wrap_i64 (by omega) (by omega)]; omega
      have w2 : IntKind.i64.wrap (((i + 1 : Nat) : Int) + 1) = ((i + 1 + 1 : Nat) : Int) := by rw [wrap_i64 (by omega) (by omega)]; omega
      rw [b6s, w1, w2]
      simp only [Bool.not_eq_true', decide_eq_false_iff_not] at hpx
      have d1 : decide (((i + 1 : Nat) : Int) < Int.ofNat (zs.map iC).length) = true := decide_eq_true (by show ((i + 1 : Nat) : Int) < ((zs.map iC).length : Int); rw [List.length_map]; omega)
      have d2 : decide ((0 : Int) ≤ ((i + 1 : Nat) : Int)) = true := decide_eq_true (by omega)
      have d3 : decide ((0 : Int) ≤ (i : Int)) = true := decide_eq_true (by omega)
      have g1 : (zs.map iC)[(((i + 1 : Nat) : Int)).toNat]? = some (iC x) := by rw [Int.toNat_natCast, List.getElem?_map, hx]; rfl
      have g2 : (zs.map iC)[((i : Int)).toNat]? = some (iC y) := by rw [Int.toNat_natCast, List.getElem?_map, hy]; rfl
      have hlen1 : ∀ z : Int, decide (1 ≤ (iC z).length) = true := fun z => rfl
      have hdec : ∀ z : Int, decE ((iC z).take 1) = some z := fun z => rfl
      rw [d1, d2, d3, g1, g2]
      simp only [cond_true, Option.bind_some, hlen1, hdec, decide_eq_false hpx, cond_false])
    (fun i q hq hpx => by
      obtain ⟨x, y⟩ := q
      unfold prs at hq
      obtain ⟨hx, hy⟩ := List.getElem?_zip_eq_some.1 hq
      rw [List.getElem?_drop, Nat.add_comm] at hx
      obtain ⟨hi, hxe⟩ := List.getElem?_eq_some_iff.1 hx
      obtain ⟨hi', hye⟩ := List.getElem?_eq_some_iff.1 hy
      have w1 : IntKind.i64.wrap (((i + 1 : Nat) : Int) - 1) = (i : Int) := by rw [wrap_i64 (by omega) (by omega)]; omega
      rw [b6s, w1]
      simp only [Bool.not_eq_false', decide_eq_true_eq] at hpx
      have d1 : decide (((i + 1 : Nat) : Int) < Int.ofNat (zs.map iC).length) = true := decide_eq_true (by show ((i + 1 : Nat) : Int) < ((zs.map iC).length : Int); rw [List.length_map]; omega)
      have d2 : decide ((0 : Int) ≤ ((i + 1 : Nat) : Int)) = true := decide_eq_true (by omega)
      have d3 : decide ((0 : Int) ≤ (i : Int)) = true := decide_eq_true (by omega)
      have g1 : (zs.map iC)[(((i + 1 : Nat) : Int)).toNat]? = some (iC x) := by rw [Int.toNat_natCast, List.getElem?_map, hx]; rfl
      have g2 : (zs.map iC)[((i : Int)).toNat]? = some (iC y) := by rw [Int.toNat_natCast, List.getElem?_map, hy]; rfl
      have hlen1 : ∀ z : Int, decide (1 ≤ (iC z).length) = true := fun z => rfl
      have hdec : ∀ z : Int, decE ((iC z).take 1) = some z := fun z => rfl
      rw [d1, d2, d3, g1, g2]
      simp only [cond_true, Option.bind_some, hlen1, hdec, decide_eq_true hpx])
    (by
      rw [b6s, decide_eq_false]
      · rfl
      · show ¬ (((prs zs).length + 1 : Nat) : Int) < ((zs.map iC).length : Int)
        rw [List.length_map, prs_len]
        omega) (by simp) (by simp)
  rcases h with ⟨h1, h2⟩ | ⟨h0, i, x, _, _, _, h4⟩
  · exact .inl ⟨h1, _, h2⟩
  · exact .inr ⟨h0, _, h4⟩

/-- What Sample answers: an error, or a row. -/
def smpE (zs : List Int) (n : Int) : Int := if zs.any badId then 2 else if ascB zs then if 0 ≤ n ∧ n ≤ zs.length then 0 else 15 else 5
def smpR (s : ByteArray) (zs : List Int) (n : Int) : D × Sto :=
  if smpE zs n ≠ 0 then (.tup [.v .nils, .v (.int .i64 (smpE zs n))], []) else
  match n.toNat with
  | 0 => (.tup [.v .nils, .v (.int .i64 0)], [])
  | k + 1 => (.tup [.rs 0 k 1 0 (k + 1), .v (.int .i64 0)], [.arr 1 k ((smp (fP s) zs (k + 1)).map iC)])
theorem r11 (s : ByteArray) (t : Tag) (zs : List Int) (n : Int) (hl : zs.length ≤ 64) (hs : catOk s ⟨#[32]⟩ = true) (hs2 : ∀ i : Nat, i ≤ 1000 → catOk (s.append ⟨#[32]⟩) (itoaB i) = true) :
    evBody MZ c11 lpC 11 [.v (.str s), .sl t 1 (zs.map iC), .v (.int .i64 n)] [] = some (smpR s zs n) := by
  rw [f11, decI_map', Option.bind_some, decide_eq_false (by rw [List.length_map]; omega), cond_false, Nat.ble_eq_true_of_le (by omega : zs.length ≤ 1000000), cond_true]
  unfold smpR smpE
  cases hb : zs.any badId with
  | true => simp
  | false =>
    simp only [cond_false, Bool.false_eq_true, if_false]
    rcases loop6 s t zs n (by omega) with ⟨ha, i, h6⟩ | ⟨ha, i, h6⟩
    · rw [h6, Option.bind_some, k6e, ha]
      simp only [if_true, List.length_map]
      by_cases h0 : n ≥ 0
      · by_cases h1 : n ≤ (zs.length : Nat)
        · obtain ⟨m, rfl⟩ : ∃ m : Nat, n = m := ⟨n.toNat, by omega⟩
          have hm : m ≤ zs.length := by omega
          have hE : (if (0 : Int) ≤ (m : Int) ∧ (m : Int) ≤ (zs.length : Nat) then (0 : Int) else 15) = 0 := if_pos ⟨h0, h1⟩
          rw [decide_eq_true h0, decide_eq_true h1, hE]
          have hroom : room 8 zs.length = true := by unfold room; simp only [Bool.and_eq_true, decide_eq_true_eq]; omega
          rw [hroom]
          simp only [cond_true, cond_false, Bool.not_true, Int.toNat_natCast, ne_eq, not_true_eq_false, if_false]
          have hrun : ∀ o, lb MZ c11 lpC 11 0 15 (env15 s zs m m) (sto15 s zs m) = some (.exit 2, o) → lpC 15 0 (lb MZ c11 lpC 11 0 15) (env15 s zs m 0) (sto15 s zs 0) = some (.exit 2, o) := fun o he => by
            obtain ⟨E', σ'⟩ := o
            exact lpC_run (env15 s zs m) (sto15 s zs) m 0 (by omega) (fun i _ h => by
              cases i with
              | zero => exact h15n _ _ _ _ _
              | succ i => exact h15r _ _ _ _ _ _ _ _) (fun i _ h => go15 s zs m i hm (by omega) hs hs2 h) he (by simp)
          cases m with
          | zero =>
            have he := b15a s zs (zs.length - 0) 0 0
            rw [decide_eq_false (by omega), cond_false] at he
            have := hrun _ he
            show (lpC 15 0 (lb MZ c11 lpC 11 0 15) (env15 s zs 0 0) (sto15 s zs 0)).bind _ = _
            rw [this, Option.bind_some, k15n]
          | succ k =>
            have he := b15b s (leftR s zs (k + 1)) (picks (fP s) 0 zs (k + 1)) (zs.length - (k + 1)) (k + 1) k ((k + 1 : Nat) : Int) ((k + 1 : Nat) : Int)
            rw [decide_eq_false (by omega), cond_false] at he
            have := hrun _ he
            show (lpC 15 0 (lb MZ c11 lpC 11 0 15) (env15 s zs (k + 1) 0) (sto15 s zs 0)).bind _ = _
            rw [this, Option.bind_some, k15r, decI_map', Option.bind_some, picks_len]
            have c1 : Nat.beq k k = true := Nat.beq_refl k
            have c2 : Nat.beq (k + 1) (k + 1) = true := Nat.beq_refl _
            have c3 : Nat.ble 1 (k + 1) = true := Nat.ble_eq_true_of_le (by omega)
            have c4 : Nat.ble (k + 1) 1000000 = true := Nat.ble_eq_true_of_le (by omega)
            rw [c1, c2, c3, c4]
            rfl
        · have hE : (if (0 : Int) ≤ n ∧ n ≤ (zs.length : Nat) then (0 : Int) else 15) = 15 := if_neg (fun h => h1 h.2)
          rw [decide_eq_true h0, decide_eq_false h1, hE]
          rfl
      · have hE : (if (0 : Int) ≤ n ∧ n ≤ (zs.length : Nat) then (0 : Int) else 15) = 15 := if_neg (fun h => h0 h.1)
        rw [decide_eq_false h0, hE]
        rfl
    · rw [h6, Option.bind_some, k6r, ha]
      rfl
end Go.Ab

/- officer.Sample: the summary. -/
namespace Go.Ab
open Go Go.Proofs
set_option maxRecDepth 100000
theorem decF_lenS : ∀ (k n : Nat), (decF k n).length ≤ k + 1
  | 0, n => by unfold decF; simp
  | k + 1, n => by
    unfold decF
    have := decF_lenS k (n / 10)
    cases h : decide (n < 10) <;> simp <;> omega
theorem itoaB_sizeS {i : Nat} : (itoaB i).size ≤ 21 := by
  have h : itoaL (i : Int) = decF 20 i := by
    unfold itoaL
    rw [decide_eq_false (by omega)]
    rfl
  show (itoaL (i : Int)).length ≤ 21
  rw [h]
  exact decF_lenS 20 i
theorem cat1S {s : ByteArray} (h : s.size ≤ 1000) : catOk s ⟨#[32]⟩ = true := by
  unfold catOk
  refine Nat.ble_eq_true_of_le ?_
  show s.size + 1 ≤ _
  omega
theorem cat2S {s : ByteArray} (h : s.size ≤ 1000) (i : Nat) : catOk (s.append ⟨#[32]⟩) (itoaB i) = true := by
  unfold catOk
  refine Nat.ble_eq_true_of_le ?_
  have h1 : (s.append ⟨#[32]⟩).size = s.size + 1 := by
    show (s ++ ⟨#[32]⟩).size = _
    rw [ByteArray.size_append]
    rfl
  have := itoaB_sizeS (i := i)
  omega
def y11 : SumF := fun args σ _ K =>
  match args, σ with
  | [.v (.str s), .sl _ 1 xs, .v (.int .i64 n)], [] => (decI xs).bind fun zs => bif Nat.ble s.size 1000 && Nat.ble zs.length 64 then K (smpR s zs n).1 (smpR s zs n).2 else none
  | _, _ => none
theorem oy11 : SumFOk PO 11 y11 := fun args σ R K r hr => by
  unfold y11 at hr
  split at hr
  · rename_i s t xs n
    simp only [Option.bind_eq_some_iff] at hr
    obtain ⟨zs, h1, h2⟩ := hr
    obtain ⟨hc, hK⟩ := bif_then h2
    simp only [Bool.and_eq_true] at hc
    have k1 := Nat.le_of_ble_eq_true hc.1
    have k2 := Nat.le_of_ble_eq_true hc.2
    have hxs := decI_ok h1
    subst hxs
    exact ⟨_, _, hK, call_z c11_ok (by kernel_rfl) (by decide) (r11 s t zs n k2 (cat1S k1) (fun i _ => cat2S k1 i))⟩
  · cases hr
end Go.Ab

/- officer.Sample: the summary, as the law reads it. -/
namespace Go.Ab
open Go Go.Proofs
set_option maxRecDepth 100000
def y11s : SumF := fun args σ _ K =>
  match args, σ with
  | [.v (.str s), .sl _ 1 xs, .v (.int .i64 n)], [] => (decI xs).bind fun zs => bif Nat.ble s.size 1000 && Nat.ble zs.length 64 then
      bif decide (smpE zs n = 0) then
        bif decide (n = 0) then K (.tup [.v .nils, .v (.int .i64 0)]) []
        else K (.tup [.rs 0 (n.toNat - 1) 1 0 n.toNat, .v (.int .i64 0)]) [.arr 1 (n.toNat - 1) ((smp (fP s) zs n.toNat).map iC)]
      else K (.tup [.v .nils, .v (.int .i64 (smpE zs n))]) [] else none
  | _, _ => none
theorem smpE_in {zs : List Int} {n : Int} (h : smpE zs n = 0) : 0 ≤ n ∧ n ≤ (zs.length : Nat) := by
  unfold smpE at h
  split at h
  · cases h
  · split at h
    · split at h
      · assumption
      · cases h
    · cases h
theorem oy11s : SumFOk PO 11 y11s := fun args σ R K r hr => by
  refine oy11 args σ R K r ?_
  unfold y11s at hr
  split at hr
  · rename_i s t xs n
    simp only [Option.bind_eq_some_iff] at hr
    obtain ⟨zs, h1, h2⟩ := hr
    obtain ⟨hc, hK⟩ := bif_then h2
    unfold y11
    simp only
    rw [h1, Option.bind_some, hc, cond_true, ← hK]
    unfold smpR
    by_cases he : smpE zs n = 0
    · rw [if_neg (fun h => h he), decide_eq_true he, cond_true]
      by_cases hn : n = 0
      · subst hn
        rfl
      · have h3 := smpE_in he
        rw [decide_eq_false hn, cond_false]
        obtain ⟨k, rfl⟩ : ∃ k : Nat, n = ((k + 1 : Nat) : Int) := ⟨n.toNat - 1, by omega⟩
        rw [Int.toNat_natCast]
        rfl
    · rw [if_pos he, decide_eq_false he]
      rfl
  · cases hr
def yl5 : List (FuncId × SumF) := [(6, y6), (11, y11s), (12, clM 1 8), (14, y14), (19, y19)]
theorem yl5_ok : ∀ p ∈ yl5, SumFOk PO p.1 p.2 := sumsC oy6 (sumsC oy11s (sumsC o12 (sumsC oy14 (sumsC oy19 sums0))))
noncomputable def y5 : CallerK := evT MZ yl5 [] 3
theorem y5_ok : CallerKOk PO y5 := evT_ok (M := MZ) mz_mixed yl5_ok inls0 3
end Go.Ab

/- Plain laws of ascending lists and whole windows. -/
namespace Go.Ab
open Go Go.Proofs
theorem window_all (xs : List (List V)) : window xs 0 xs.length = xs := by unfold window; rw [List.drop_zero, List.take_length]
theorem ascB_asc : ∀ {zs : List Int}, ascB zs = true → asc zs
  | [], _ => List.Pairwise.nil
  | [x], _ => by unfold asc; simp
  | x :: y :: r, h => by
    unfold ascB prs at h
    simp only [List.drop_succ_cons, List.drop_zero, List.zip_cons_cons, List.all_cons, Bool.and_eq_true, Bool.not_eq_true', decide_eq_false_iff_not] at h
    obtain ⟨h1, h2⟩ := h
    have ih : asc (y :: r) := ascB_asc (by unfold ascB prs; simpa using h2)
    unfold asc at ih ⊢
    refine List.pairwise_cons.2 ⟨fun z hz => ?_, ih⟩
    rcases List.mem_cons.1 hz with e | e
    · omega
    · have := (List.pairwise_cons.1 ih).1 z e
      omega
theorem smpE_asc {zs : List Int} {n : Int} (h : smpE zs n = 0) : asc zs := by
  unfold smpE at h
  split at h
  · cases h
  · split at h
    · rename_i h1; exact ascB_asc h1
    · cases h
/-- An answer at one size is one at each size in range. -/
theorem smpE_zero {zs : List Int} {n m : Int} (h : smpE zs n = 0) (h0 : 0 ≤ m) (h1 : m ≤ (zs.length : Nat)) : smpE zs m = 0 := by
  unfold smpE at h ⊢
  split at h
  · cases h
  · rename_i hb
    rw [if_neg hb]
    split at h
    · rename_i ha
      rw [if_pos ha, if_pos ⟨h0, h1⟩]
    · cases h
end Go.Ab
