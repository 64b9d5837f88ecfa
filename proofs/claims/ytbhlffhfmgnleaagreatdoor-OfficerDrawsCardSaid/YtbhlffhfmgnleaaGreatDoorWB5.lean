/- What is known of each function, for awake: to be computed by the kernel. -/
import Derived.Test.YtbhlffhfmgnleaaGreatDoorWB4
import Derived.Test.YtbhlffhfmgnleaaGreatDoorWA7
import Derived.KernelRfl
set_option linter.all false
namespace Go.Ab
open Go
def strD (l : List UInt8) : D := .v (.str ⟨⟨l⟩⟩)
def strsOf : List (List V) → Option (List ByteArray)
  | [] => some []
  | [.str s] :: xs => (strsOf xs).bind fun l => some (s :: l)
  | _ => none
def bytesL (s : ByteArray) : List UInt8 := s.data.toList
/-- Decimal digits. -/
def decF : Nat → Nat → List UInt8
  | 0, _ => []
  | f + 1, u => bif decide (u < 10) then [UInt8.ofNat (48 + u)] else decF f (u / 10) ++ [UInt8.ofNat (48 + u % 10)]
def itoaL (n : Int) : List UInt8 := bif decide (n < 0) then 45 :: decF 20 n.natAbs else decF 20 n.toNat
def s17 : SumF := fun args σ _ K =>
  match args, σ with
  | [.v (.int .i64 n)], [] => bif decide (-9223372036854775808 ≤ n) && decide (n ≤ 9223372036854775807) then fBytes (itoaL n) fun l => K (strD l) [] else none
  | _, _ => none
def s18 : SumF := fun args σ _ K =>
  match args, σ with
  | [.v (.str s)], [] => digestF (bytesL s) fun l => K (strD l) []
  | _, _ => none
def joinB : List (List UInt8) → List UInt8 → List UInt8
  | [], _ => []
  | [x], _ => x
  | x :: xs, sep => x ++ sep ++ joinB xs sep
def s144 : SumF := fun args σ _ K =>
  match args, σ with
  | [.sl _ 1 xs, .v (.str sep)], [] => (strsOf xs).bind fun l =>
    bif !isNil l && decide (l.length ≤ 140737488355328) && decide ((joinB (l.map bytesL) (bytesL sep)).length ≤ 140737488355328) then fBytes (joinB (l.map bytesL) (bytesL sep)) fun l => K (strD l) [] else none
  | _, _ => none
def s75 : SumF := fun args σ _ K =>
  match args, σ with
  | [.v (.str s), .v (.int .i64 n)], [] => bif decide (0 ≤ n) && decide (n ≤ 9223372036854775807) && decide (s.size * n.toNat ≤ 140737488355328) then fBytes (List.replicate n.toNat (bytesL s)).flatten fun l => K (strD l) [] else none
  | _, _ => none
/-- A replacer that has not been used yet, and a string in which there is nothing to do. -/
def s146 : SumF := fun args σ _ K =>
  match args, σ with
  | [.ptr 0 0, .v (.str s)], [.box 251 [.v (.int .u32 0), .v (.int .i32 0), .v (.int .u32 0), .v .nili, .rs 1 0 1 0 4], .arr 1 0 [[.str a], [.str b], [.str c], [.str d]]] =>
    bif bytesL a == [34] && bytesL b == [92, 34] && bytesL c == [92] && bytesL d == [92, 92] && Nat.ble (bytesL s).length 15 && (bytesL s).all (fun x => x != 34 && x != 92) then
      K (.v (.str s)) [.box 251 [.undef, .undef, .undef, .undef, .undef], .arr 1 0 [[.str a], [.str b], [.str c], [.str d]]]
    else none
  | _, _ => none
def s142 : SumF := fun args σ _ K =>
  match args, σ with
  | [.ptr 0 0], .box 169 [.v .nilp, b] :: rest => K (.tup []) (.box 169 [.ptr 0 0, b] :: rest)
  | [.ptr 0 0], .box 169 [.ptr 0 0, b] :: rest => K (.tup []) (.box 169 [.ptr 0 0, b] :: rest)
  | _, _ => none
def s116 : SumF := fun args σ _ K =>
  match args, σ with
  | [.ptr 0 0], [.box 169 [a, .rs 1 g 1 0 n], .arr 1 g' xs] => bif Nat.beq g g' && Nat.beq n xs.length then (bytesOf xs).bind fun l => fBytes l fun l => K (strD l) [.box 169 [a, .rs 1 g 1 0 n], .frz 1 g xs] else none
  | _, _ => none
def sumsA : List (FuncId × SumF) := [(17, s17), (18, s18), (144, s144), (75, s75), (146, s146), (142, s142), (116, s116), (12, clM 1 8), (107, clM 1 16), (171, clM 5 40), (172, clM 5 40), (173, clM 4 32), (283, clM 4 48), (284, clM 2 16), (285, clM 5 64)]
noncomputable def MA : Mode := modeO true
end Go.Ab

/- book.Digest's summary is right. -/
namespace Go.Ab
open Go

theorem wrap_u64 {x : Int} (h0 : 0 ≤ x) (h1 : x < 18446744073709551616) : IntKind.u64.wrap x = x := by
  have h : IntKind.u64.wrap x = if (false && decide (x % 18446744073709551616 ≥ 9223372036854775808)) = true then x % 18446744073709551616 - 18446744073709551616 else x % 18446744073709551616 := rfl
  rw [h]
  simp only [Bool.false_and, Bool.false_eq_true, if_false]
  omega
theorem ext_bytes {a b : ByteArray} (h : a.data.toList = b.data.toList) : a = b := by
  cases a; cases b; rename_i a b; cases a; cases b; simp_all
theorem ext_take (l : List UInt8) (m : Nat) : (⟨⟨l⟩⟩ : ByteArray).extract 0 m = ⟨⟨l.take m⟩⟩ := by
  apply ext_bytes
  rw [ByteArray.data_extract]
  simp
theorem ext_drop (l : List UInt8) (m : Nat) : (⟨⟨l⟩⟩ : ByteArray).extract m (⟨⟨l⟩⟩ : ByteArray).size = ⟨⟨l.drop m⟩⟩ := by
  apply ext_bytes
  rw [ByteArray.data_extract]
  show (Array.extract ⟨l⟩ m l.length).toList = l.drop m
  simp only [List.extract_toArray, List.extract_eq_take_drop]
  exact List.take_of_length_le (by simp)
theorem digF_eq {R : Type} : ∀ (n : Nat) (l : List UInt8) (d : Int) (h : List Int) (k : List Int → R), digF n l d h k = k (digGo n ⟨⟨l⟩⟩ d h)
  | 0, l, d, h, k => rfl
  | n + 1, l, d, h, k => by
    have hs : (⟨⟨l⟩⟩ : ByteArray).size = l.length := rfl
    have hn : nD ⟨⟨l⟩⟩ = ((min 64 l.length : Nat) : Int) := by rw [nD_eq, hs]
    have hd : IntKind.u64.wrap (d + ((l.take 64).length : Nat)) = dD ⟨⟨l⟩⟩ d := by
      unfold dD
      rw [hn, List.length_take, wrap_u64 (x := ((min 64 l.length : Nat) : Int)) (by omega) (by omega)]
    have hb : (nD ⟨⟨l⟩⟩ == ((⟨⟨l⟩⟩ : ByteArray).size : Int)) = Nat.ble l.length 64 := by
      rw [hn, hs, Bool.eq_iff_iff]
      simp only [beq_iff_eq, Nat.ble_eq]
      omega
    have hx : (⟨⟨l⟩⟩ : ByteArray).extract 0 (nD ⟨⟨l⟩⟩).toNat = ⟨⟨l.take 64⟩⟩ := by
      rw [hn, ext_take]
      congr 2
      rw [Int.toNat_natCast]
      by_cases h64 : 64 ≤ l.length
      · rw [Nat.min_eq_left h64]
      · rw [Nat.min_eq_right (by omega), List.take_of_length_le (Nat.le_refl _), List.take_of_length_le (by omega)]
    have hy : Nat.ble l.length 64 = false → (⟨⟨l⟩⟩ : ByteArray).extract (nD ⟨⟨l⟩⟩).toNat (⟨⟨l⟩⟩ : ByteArray).size = ⟨⟨l.drop 64⟩⟩ := fun h64 => by
      have : ¬ l.length ≤ 64 := fun hh => by rw [Nat.ble_eq_true_of_le hh] at h64; cases h64
      rw [hn, Int.toNat_natCast, Nat.min_eq_left (by omega), ext_drop]
    unfold digF digGo blkAt
    rw [fInt_eq', hd]
    have hblk : ∀ k : List Int → R, blkF h (l.take 64) (dD ⟨⟨l⟩⟩ d) (Nat.ble l.length 64) k = k (blkL h ⟨⟨l.take 64⟩⟩ (dD ⟨⟨l⟩⟩ d) (Nat.ble l.length 64)) := fun k => by
      have := blkF_eq h ⟨⟨l.take 64⟩⟩ (dD ⟨⟨l⟩⟩ d) (Nat.ble l.length 64) k
      rw [ByteArray.toList_eq] at this
      exact this
    rw [hblk, hx, hb]
    cases he : Nat.ble l.length 64 with
    | true =>
      have : endS ⟨⟨l⟩⟩ = true := by unfold endS; rw [hs]; exact decide_eq_true (Nat.le_of_ble_eq_true he)
      simp only [this, cond_true]
    | false =>
      have : endS ⟨⟨l⟩⟩ = false := by unfold endS; rw [hs]; exact decide_eq_false (fun hh => by rw [Nat.ble_eq_true_of_le hh] at he; cases he)
      simp only [this, cond_false]
      rw [hy he, fBytes_eq, digF_eq n]
theorem digestF_eq {R : Type} (l : List UInt8) (k : List UInt8 → R) : digestF l k = k (digestB ⟨⟨l⟩⟩).data.toList := by
  unfold digestF
  rw [digF_eq, fBytes_eq]
  rfl
theorem s18_eq {R : Type} (s : ByteArray) (K : D → Sto → Option R) : s18 [.v (.str s)] [] K = K (.v (.str (digestB s))) [] := by
  show digestF (bytesL s) (fun l => K (strD l) []) = _
  rw [digestF_eq]
  rfl

/-! ### The two functions -/
theorem loopN_looper (n : Nat) : LooperOk (fun _ k body => loopN k body n) := fun _ k body E σ o h => loopN_ok k body n E σ o h
set_option maxRecDepth 100000 in
theorem mo_mixed : MO.P.follows .mixedOrders = true := by kernel_rfl
noncomputable abbrev PO : Program := Go.Proofs.Tryz.prog
theorem cO_ok : CallerKOk MO.P cO := evT_ok (M := MO) mo_mixed sums0 (inlsC (by kernel_rfl) (inlsC (by kernel_rfl) (inlsC (by kernel_rfl) inls0))) 5

theorem ints_ok : ∀ {ds : List D} {l : List Int}, ints ds = some l → ds = l.map I32
  | [], l, h => by cases h; rfl
  | d :: ds, l, h => by
    unfold ints at h
    split at h
    · rename_i heq; cases heq
    · rename_i n ds' heq
      cases heq
      simp only [Option.bind_eq_some_iff, Option.some.injEq] at h
      obtain ⟨l', h1, rfl⟩ := h
      rw [ints_ok h1]
      rfl
    · cases h
theorem bif_then {α : Type} {b : Bool} {x : Option α} {r : α} (h : (bif b then x else none) = some r) : b = true ∧ x = some r := by
  cases b with
  | true => exact ⟨rfl, h⟩
  | false => cases h
set_option maxRecDepth 100000 in
theorem o38 : SumFOk PO 38 (sumF blkS) := fun args σ R K r hr => by
  unfold sumF at hr
  simp only [Option.bind_eq_some_iff] at hr
  obtain ⟨p, h1, h2⟩ := hr
  refine ⟨p.1, p.2, h2, ?_⟩
  unfold blkS at h1
  split at h1
  · rename_i hs s e l
    simp only [Option.bind_eq_some_iff] at h1
    obtain ⟨h, k1, k2⟩ := h1
    obtain ⟨k3, k4⟩ := bif_then k2
    cases k4
    simp only [Bool.and_eq_true, beq_iff_eq, decide_eq_true_eq] at k3
    have hi := ints_ok k1
    subst hi
    have hb := block_ok 0 k3.1 s k3.2 e l
    obtain ⟨m1, m2⟩ := evBody_ok cO_ok mo_mixed (loopN_looper _) (FnOk.of (P := PO) (f := 38) (by kernel_rfl)) hb
    refine ⟨fun _ => m1, fun X us a1 a2 a3 a4 => ?_⟩
    unfold RunG
    rw [if_neg (by decide)]
    exact m2 X us a1 a2 a3 a4
  · cases h1
theorem cD_ok : CallerKOk MO.P (cQ cD) := fun f args σ R K r hr => by
  unfold cQ cD at hr
  cases hf : (f == 38) with
  | false => rw [hf] at hr; cases hr
  | true =>
    rw [hf] at hr
    have : f = 38 := by simpa using hf
    subst this
    exact o38 args σ R K r hr
set_option maxRecDepth 100000 in
theorem o18 : SumFOk PO 18 s18 := fun args σ R K r hr => by
  unfold s18 at hr
  split at hr
  · rename_i s
    have he := s18_eq s K
    unfold s18 at he
    simp only at he
    rw [he] at hr
    refine ⟨_, _, hr, ?_⟩
    have hb := digest_ok cD (fun args => rfl) s
    obtain ⟨m1, m2⟩ := evBody_ok cD_ok mo_mixed (loopN_looper _) (FnOk.of (P := PO) (f := 18) (by kernel_rfl)) hb
    refine ⟨fun _ => m1, fun X us a1 a2 a3 a4 => ?_⟩
    unfold RunG
    rw [if_neg (by decide)]
    exact m2 X us a1 a2 a3 a4
  · cases hr
end Go.Ab

/- The functions that awake enters are in order. -/
namespace Go.Ab
open Go
set_option maxRecDepth 100000
def inl0 : List FuncId := [6, 7, 9, 11, 15, 20, 21, 22, 23, 24, 25, 26, 27, 28, 29, 33, 34, 35, 36, 40, 41, 42, 43, 44, 45, 47, 48, 49, 50, 51]
theorem inlOk0 : inl0.all (fnOkB PO) = true := by kernel_rfl
def inl1 : List FuncId := [52, 53, 54, 55, 56, 60, 61, 62, 65, 66, 67, 68, 69, 70, 71, 72, 73, 74, 76, 77, 78, 79, 80, 81, 82, 83, 86, 92, 96, 102]
theorem inlOk1 : inl1.all (fnOkB PO) = true := by kernel_rfl
def inl2 : List FuncId := [103, 104, 105, 106, 108, 109, 110, 114, 117, 118, 119, 120, 121, 122, 123, 135, 136, 138, 145, 147, 148, 149, 151, 152, 153, 154, 155, 164, 165, 166]
theorem inlOk2 : inl2.all (fnOkB PO) = true := by kernel_rfl
def inl3 : List FuncId := [167, 168, 169, 170, 174, 175, 184, 185, 193, 201, 202, 219, 226, 240, 256, 257, 261, 275, 276, 278, 279, 280, 282, 289, 291, 292, 293, 300, 303, 304]
theorem inlOk3 : inl3.all (fnOkB PO) = true := by kernel_rfl
def inlA : List FuncId := inl0 ++ inl1 ++ inl2 ++ inl3
theorem inlA_ok : ∀ f ∈ inlA, FnOk PO f := by
  have h : inlA.all (fnOkB PO) = true := by
    unfold inlA
    simp only [List.all_append, inlOk0, inlOk1, inlOk2, inlOk3, Bool.and_self]
  intro f hf
  exact FnOk.of (List.all_eq_true.1 h f hf)
end Go.Ab
