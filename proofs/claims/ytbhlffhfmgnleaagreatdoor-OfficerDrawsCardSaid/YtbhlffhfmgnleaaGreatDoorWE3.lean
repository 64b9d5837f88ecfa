/- The reference's digest: its block as a summary, and its rounds. -/
import Derived.Test.YtbhlffhfmgnleaaGreatDoorWE2
import Derived.Test.YtbhlffhfmgnleaaGreatDoorWB5
import Derived.Test.YtbhlffhfmgnleaaGreatDoorWC2
import Derived.Test.YtbhlffhfmgnleaaGreatDoorWD2
set_option linter.all false
namespace Go.Ab
open Go
set_option maxRecDepth 100000
def bl8 (L : List Int) : List D := [0, 1, 2, 3, 4, 5, 6, 7].map fun i => I32 (L.getD i 0)
theorem bl8_eq {L : List Int} (h : L.length = 8) : bl8 L = List.map I32 L := by
  obtain ⟨h0, h1, h2, h3, h4, h5, h6, h7, rfl⟩ := len8 h
  rfl
def rblkS : SumF := fun args σ _ K =>
  match args, σ with
  | [.agg hs, .v (.str s), .v (.int .i64 e), .v (.bool l)], [] => (ints hs).bind fun h => bif h.length == 8 && decide (s.size ≤ 64) then K (.agg (bl8 (blkL h s e l))) [] else none
  | _, _ => none
theorem cR_ok : CallerKOk MO.P cR := evT_ok (M := MO) mo_mixed sums0 (inlsC (by kernel_rfl) (inlsC (by kernel_rfl) (inlsC (by kernel_rfl) (inlsC (by kernel_rfl) inls0)))) 5
theorem o59 : SumFOk PO 59 rblkS := fun args σ R K r hr => by
  unfold rblkS at hr
  split at hr
  · rename_i hs s e l
    simp only [Option.bind_eq_some_iff] at hr
    obtain ⟨h, k1, k2⟩ := hr
    obtain ⟨k3, k4⟩ := bif_then k2
    simp only [Bool.and_eq_true, beq_iff_eq, decide_eq_true_eq] at k3
    have hi := ints_ok k1
    subst hi
    have hl : (blkL h s e l).length = 8 := endL_len _ _
    rw [bl8_eq hl] at k4
    refine ⟨_, _, k4, ?_⟩
    have hb := rblock_ok 0 k3.1 s k3.2 e l
    obtain ⟨m1, m2⟩ := evBody_ok cR_ok mo_mixed (loopN_looper _) (FnOk.of (P := PO) (f := 59) (by kernel_rfl)) hb
    refine ⟨fun _ => m1, fun X us a1 a2 a3 a4 => ?_⟩
    unfold RunG
    rw [if_neg (by decide)]
    exact m2 X us a1 a2 a3 a4
  · cases hr
def rl31 : List (FuncId × SumF) := [(59, rblkS)]
theorem rl31_ok : ∀ p ∈ rl31, SumFOk PO p.1 p.2 := sumsC o59 sums0
noncomputable def c31 : CallerK := evT MO rl31 [58] 5
theorem c31_ok : CallerKOk MO.P c31 := evT_ok (M := MO) mo_mixed rl31_ok (inlsC (by kernel_rfl) inls0) 5
def renvG (s : ByteArray) (a : Int) : Env := [(0, .v (.str s)), (2, .v (.str ⟨#[]⟩)), (3, .ptr 0 0), (4, I64 a)]
theorem rg1 (lp : Looper) (s : ByteArray) : evBody MO c31 lp 31 [.v (.str s)] [] = (lp 4 0 (lb MO c31 lp 31 0 4) (renvG s 0) (hB h0L)).bind (contF MO c31 lp 31 0 4) := by kernel_rfl
theorem rgB (lp : Looper) (s : ByteArray) (a h0 h1 h2 h3 h4 h5 h6 h7 : Int) : lb MO c31 lp 31 0 4 (renvG s a) (hB [h0, h1, h2, h3, h4, h5, h6, h7]) =
    bif decide (IntKind.i64.wrap (a + 64) < (s.size : Int)) then
      bif decide (0 ≤ IntKind.i64.wrap (a + 64)) then bif decide (0 ≤ a) then
        bif decide (a.toNat ≤ (IntKind.i64.wrap (a + 64)).toNat) && decide ((IntKind.i64.wrap (a + 64)).toNat ≤ s.size) then
          bif decide ((s.extract a.toNat (IntKind.i64.wrap (a + 64)).toNat).size ≤ 64) then
            some (.normal, renvG s (IntKind.i64.wrap (a + 64)), [.box 82 (bl8 (blkL [h0, h1, h2, h3, h4, h5, h6, h7] (s.extract a.toNat (IntKind.i64.wrap (a + 64)).toNat) (IntKind.i64.wrap (a + 64)) false))])
          else none
        else none
      else none else none
    else some (.exit 0, renvG s a, hB [h0, h1, h2, h3, h4, h5, h6, h7]) := by kernel_rfl
theorem rheadG (s : ByteArray) (a h0 h1 h2 h3 h4 h5 h6 h7 : Int) : head 0 (renvG s a) (hB [h0, h1, h2, h3, h4, h5, h6, h7]) = some (renvG s a, hB [h0, h1, h2, h3, h4, h5, h6, h7]) := by kernel_rfl
end Go.Ab

/- The reference's digest: behind its rounds. -/
namespace Go.Ab
open Go
set_option maxRecDepth 100000
def rwB (w : Int) : List UInt8 := [UInt8.ofNat (IntKind.u8.wrap (w.fdiv (2 ^ min 0 IntKind.u32.bits))).toNat, UInt8.ofNat (IntKind.u8.wrap (w.fdiv (2 ^ min 8 IntKind.u32.bits))).toNat, UInt8.ofNat (IntKind.u8.wrap (w.fdiv (2 ^ min 16 IntKind.u32.bits))).toNat, UInt8.ofNat (IntKind.u8.wrap (w.fdiv (2 ^ min 24 IntKind.u32.bits))).toNat]
theorem rwB_eq (w : Int) : rwB w = wB w := by
  have h : w.fdiv (2 ^ min 0 IntKind.u32.bits) = w := Int.fdiv_one w
  unfold rwB wB
  rw [h]
def out8 (L : List Int) : ByteArray := ⟨⟨([0, 1, 2, 3, 4, 5, 6, 7].map fun i => rwB (L.getD i 0)).flatten⟩⟩
theorem out8_eq {L : List Int} (h : L.length = 8) : out8 L = ⟨⟨(L.map wB).flatten⟩⟩ := by
  obtain ⟨h0, h1, h2, h3, h4, h5, h6, h7, rfl⟩ := len8 h
  show (⟨⟨([h0, h1, h2, h3, h4, h5, h6, h7].map rwB).flatten⟩⟩ : ByteArray) = _
  have : rwB = wB := funext rwB_eq
  rw [this]
theorem rg2 (n : Nat) (s : ByteArray) (a h0 h1 h2 h3 h4 h5 h6 h7 : Int) : contF MO c31 (fun _ k body => loopN k body (n + 9)) 31 0 4 (.exit 0, renvG s a, hB [h0, h1, h2, h3, h4, h5, h6, h7]) =
    bif decide (0 ≤ a) then
      bif decide (a.toNat ≤ s.size) && decide (s.size ≤ s.size) then
        bif decide ((s.extract a.toNat s.size).size ≤ 64) then
          some (.v (.str (out8 (blkL [h0, h1, h2, h3, h4, h5, h6, h7] (s.extract a.toNat s.size) s.size true))), [])
        else none
      else none
    else none := by kernel_rfl
end Go.Ab

/- The reference's digest is the digest. -/
namespace Go.Ab
open Go
set_option maxRecDepth 100000
theorem wrap_i64R {x : Int} (h0 : 0 ≤ x) (h1 : x < 1000000000) : IntKind.i64.wrap x = x := by
  have h : IntKind.i64.wrap x = if (true && decide (x % 18446744073709551616 ≥ 9223372036854775808)) = true then x % 18446744073709551616 - 18446744073709551616 else x % 18446744073709551616 := rfl
  rw [h]
  simp only [Bool.true_and, decide_eq_true_eq]
  split <;> omega
theorem nD_ext {s : ByteArray} {a : Nat} (ha : a ≤ s.size) : nD (s.extract a s.size) = ((min 64 (s.size - a) : Nat) : Int) := by
  rw [nD_eq, ByteArray.size_extract, Nat.min_self]
theorem ext_size {s : ByteArray} {a : Nat} : (s.extract a s.size).size = s.size - a := by rw [ByteArray.size_extract, Nat.min_self]
theorem blkAt_last {s : ByteArray} {a : Nat} (h : List Int) (ha : a ≤ s.size) (hl : s.size ≤ a + 64) (hs : s.size ≤ 1000000) : blkAt (s.extract a s.size) a h = blkL h (s.extract a s.size) s.size true := by
  unfold blkAt dD
  rw [nD_ext ha, Nat.min_eq_right (by omega)]
  have h1 : (s.extract a s.size).extract 0 ((s.size - a : Nat) : Int).toNat = s.extract a s.size := by
    rw [Int.toNat_natCast, ByteArray.extract_extract, Nat.min_eq_left (by omega)]
    congr 1
    omega
  have h2 : IntKind.u64.wrap ((a : Int) + IntKind.u64.wrap ((s.size - a : Nat) : Int)) = (s.size : Int) := by
    rw [wrap_u64 (x := ((s.size - a : Nat) : Int)) (by omega) (by omega), wrap_u64 (by omega) (by omega)]
    omega
  have h3 : (((s.size - a : Nat) : Int) == ((s.extract a s.size).size : Int)) = true := by rw [ext_size]; simp
  rw [h1, h2, h3]
theorem blkAt_more {s : ByteArray} {a : Nat} (h : List Int) (hl : a + 64 < s.size) (hs : s.size ≤ 1000000) : blkAt (s.extract a s.size) a h = blkL h (s.extract a (a + 64)) ((a + 64 : Nat) : Int) false := by
  unfold blkAt dD
  rw [nD_ext (by omega), Nat.min_eq_left (by omega)]
  have h1 : (s.extract a s.size).extract 0 ((64 : Nat) : Int).toNat = s.extract a (a + 64) := by
    rw [Int.toNat_natCast, ByteArray.extract_extract, Nat.min_eq_left (by omega)]
    congr 1
  have h2 : IntKind.u64.wrap ((a : Int) + IntKind.u64.wrap ((64 : Nat) : Int)) = ((a + 64 : Nat) : Int) := by
    rw [wrap_u64 (x := ((64 : Nat) : Int)) (by omega) (by omega), wrap_u64 (by omega) (by omega)]
    omega
  have h3 : (((64 : Nat) : Int) == ((s.extract a s.size).size : Int)) = false := by
    rw [ext_size]
    simp only [beq_eq_false_iff_ne, ne_eq]
    omega
  rw [h1, h2, h3]
theorem rgNext (lp : Looper) (s : ByteArray) (hs : s.size ≤ 1000000) (a : Nat) (h : List Int) (hh : h.length = 8) (hl : a + 64 < s.size) :
    lb MO c31 lp 31 0 4 (renvG s a) (hB h) = some (.normal, renvG s ((a + 64 : Nat) : Int), hB (blkL h (s.extract a (a + 64)) ((a + 64 : Nat) : Int) false)) := by
  obtain ⟨h0, h1, h2, h3, h4, h5, h6, h7, rfl⟩ := len8 hh
  have hw : IntKind.i64.wrap ((a : Int) + 64) = ((a + 64 : Nat) : Int) := by rw [wrap_i64R (by omega) (by omega)]; omega
  have c1 : decide (((a + 64 : Nat) : Int) < (s.size : Int)) = true := decide_eq_true (by omega)
  have c2 : decide ((0 : Int) ≤ ((a + 64 : Nat) : Int)) = true := decide_eq_true (by omega)
  have c3 : decide ((0 : Int) ≤ (a : Int)) = true := decide_eq_true (by omega)
  have c4 : decide (a ≤ a + 64) = true := decide_eq_true (by omega)
  have c5 : decide (a + 64 ≤ s.size) = true := decide_eq_true (by omega)
  have c6 : decide ((s.extract a (a + 64)).size ≤ 64) = true := decide_eq_true (by rw [ByteArray.size_extract]; omega)
  have hb8 : (blkL [h0, h1, h2, h3, h4, h5, h6, h7] (s.extract a (a + 64)) ((a + 64 : Nat) : Int) false).length = 8 := endL_len _ _
  rw [rgB, hw, Int.toNat_natCast, Int.toNat_natCast, c1, c2, c3, c4, c5, c6, bl8_eq hb8]
  simp only [cond_true, Bool.and_self]
theorem rgStop (lp : Looper) (s : ByteArray) (hs : s.size ≤ 1000000) (a : Nat) (h : List Int) (hh : h.length = 8) (ha : a ≤ s.size) (hl : s.size ≤ a + 64) :
    lb MO c31 lp 31 0 4 (renvG s a) (hB h) = some (.exit 0, renvG s a, hB h) := by
  obtain ⟨h0, h1, h2, h3, h4, h5, h6, h7, rfl⟩ := len8 hh
  rw [rgB, wrap_i64R (by omega) (by omega), decide_eq_false (by omega), cond_false]
theorem rheadGl (s : ByteArray) (a : Int) (h : List Int) (hh : h.length = 8) : head 0 (renvG s a) (hB h) = some (renvG s a, hB h) := by
  obtain ⟨h0, h1, h2, h3, h4, h5, h6, h7, rfl⟩ := len8 hh
  exact rheadG s a h0 h1 h2 h3 h4 h5 h6 h7
theorem rgEnd (n : Nat) (s : ByteArray) (a : Nat) (h : List Int) (hh : h.length = 8) (ha : a ≤ s.size) (hl : s.size ≤ a + 64) :
    contF MO c31 (fun _ k body => loopN k body (n + 9)) 31 0 4 (.exit 0, renvG s a, hB h) = some (.v (.str (out8 (blkL h (s.extract a s.size) s.size true))), []) := by
  obtain ⟨h0, h1, h2, h3, h4, h5, h6, h7, rfl⟩ := len8 hh
  have c1 : decide ((0 : Int) ≤ (a : Int)) = true := decide_eq_true (by omega)
  have c2 : decide (a ≤ s.size) = true := decide_eq_true ha
  have c3 : decide (s.size ≤ s.size) = true := decide_eq_true (Nat.le_refl _)
  have c4 : decide ((s.extract a s.size).size ≤ 64) = true := decide_eq_true (by rw [ext_size]; omega)
  rw [rg2, Int.toNat_natCast, c1, c2, c3, c4]
  simp only [cond_true, Bool.and_self]
theorem rdigLoop (lp : Looper) (s : ByteArray) (hs : s.size ≤ 1000000) : ∀ (n a : Nat) (h : List Int), h.length = 8 → a ≤ s.size → s.size ≤ a + 64 * n + 64 →
    ∃ (a' : Nat) (h' : List Int), h'.length = 8 ∧ a' ≤ s.size ∧ s.size ≤ a' + 64 ∧ loopN 0 (lb MO c31 lp 31 0 4) (n + 1) (renvG s a) (hB h) = some (.exit 0, renvG s a', hB h') ∧ digGo (n + 1) (s.extract a s.size) a h = blkL h' (s.extract a' s.size) s.size true := by
  intro n
  induction n with
  | zero =>
    intro a h hh ha hn
    refine ⟨a, h, hh, ha, by omega, ?_, ?_⟩
    · exact loopN_stop (rheadGl s a h hh) (rgStop lp s hs a h hh ha (by omega)) (by simp)
    · rw [digGo_last 0 _ _ _ (by unfold endS; rw [ext_size]; exact decide_eq_true (by omega)), blkAt_last h ha (by omega) hs]
  | succ n ih =>
    intro a h hh ha hn
    by_cases hl : s.size ≤ a + 64
    · refine ⟨a, h, hh, ha, by omega, ?_, ?_⟩
      · exact loopN_stop (rheadGl s a h hh) (rgStop lp s hs a h hh ha hl) (by simp)
      · rw [digGo_last (n + 1) _ _ _ (by unfold endS; rw [ext_size]; exact decide_eq_true (by omega)), blkAt_last h ha (by omega) hs]
    · have hb8 : (blkL h (s.extract a (a + 64)) ((a + 64 : Nat) : Int) false).length = 8 := endL_len _ _
      obtain ⟨a', h', k1, k2, k3, k4, k5⟩ := ih (a + 64) _ hb8 (by omega) (by omega)
      refine ⟨a', h', k1, k2, k3, ?_, ?_⟩
      · rw [← k4]
        exact loopN_next (rheadGl s a h hh) (rgNext lp s hs a h hh (by omega))
      · have hE : endS (s.extract a s.size) = false := by unfold endS; rw [ext_size]; exact decide_eq_false (by omega)
        rw [digGo_more (n + 1) _ _ _ hE, blkAt_more h (by omega) hs, ← k5]
        have hn : nD (s.extract a s.size) = ((64 : Nat) : Int) := by rw [nD_ext (by omega), Nat.min_eq_left (by omega)]
        have e1 : (s.extract a s.size).extract (nD (s.extract a s.size)).toNat (s.extract a s.size).size = s.extract (a + 64) s.size := by
          rw [hn, ByteArray.extract_extract, ext_size, show min (a + (s.size - a)) s.size = s.size by omega]
          rfl
        have e2 : dD (s.extract a s.size) a = ((a + 64 : Nat) : Int) := by
          unfold dD
          rw [hn, wrap_u64 (x := ((64 : Nat) : Int)) (by omega) (by omega), wrap_u64 (by omega) (by omega)]
          omega
        rw [e1, e2]
theorem rdigest_ok (s : ByteArray) (hs : s.size ≤ 1000000) : evBody MO c31 (fun _ k body => loopN k body (s.size + 9)) 31 [.v (.str s)] [] = some (.v (.str (digestB s)), []) := by
  rw [rg1]
  obtain ⟨a', h', k1, k2, k3, k4, k5⟩ := rdigLoop (fun _ k body => loopN k body (s.size + 9)) s hs (s.size + 8) 0 h0L rfl (by omega) (by omega)
  rw [show s.size + 8 + 1 = s.size + 9 from rfl] at k4
  have k4' : loopN 0 (lb MO c31 (fun _ k body => loopN k body (s.size + 9)) 31 0 4) (s.size + 9) (renvG s 0) (hB h0L) = some (.exit 0, renvG s a', hB h') := k4
  rw [k4', Option.bind_some]
  have hl8 : (blkL h' (s.extract a' s.size) s.size true).length = 8 := endL_len _ _
  have hd : digestB s = out8 (blkL h' (s.extract a' s.size) s.size true) := by
    rw [out8_eq hl8, ← k5, ByteArray.extract_zero_size]
    unfold digestB
    rw [digGo_fuel (s.size / 64) (s.size + 8) s 0 h0L (by omega) (by omega)]
    rfl
  rw [hd]
  exact rgEnd s.size s a' h' k1 k2 k3
def y31 : SumF := fun args σ _ K =>
  match args, σ with
  | [.v (.str s)], [] => bif Nat.ble s.size 1000000 then K (.v (.str (digestB s))) [] else none
  | _, _ => none
theorem oy31 : SumFOk PO 31 y31 := fun args σ R K r hr => by
  unfold y31 at hr
  split at hr
  · rename_i s
    obtain ⟨hc, hK⟩ := bif_then hr
    have hb := rdigest_ok s (Nat.le_of_ble_eq_true hc)
    refine ⟨_, _, hK, ?_⟩
    obtain ⟨m1, m2⟩ := evBody_ok c31_ok mo_mixed (loopN_looper _) (FnOk.of (P := PO) (f := 31) (by kernel_rfl)) hb
    refine ⟨fun _ => m1, fun X us a1 a2 a3 a4 => ?_⟩
    unfold RunG
    rw [if_neg (by decide)]
    exact m2 X us a1 a2 a3 a4
  · cases hr
end Go.Ab

/- The reference's decimal text of a number. -/
namespace Go.Ab
open Go Go.Proofs
set_option maxRecDepth 100000
def y32n (k : Nat) : SumF := fun args σ _ K =>
  match args, σ with
  | [.v (.int .i64 n)], [] => bif decide (0 ≤ n) && decide (n < 10 ^ (k + 1)) then K (.v (.str ⟨⟨decF (k + 1) n.toNat⟩⟩)) [] else none
  | _, _ => none
def rl32 (k : Nat) : List (FuncId × SumF) := [(32, y32n k)]
noncomputable def c32 (k : Nat) : CallerK := evT MY (rl32 k) [] 3
def digB1 (n : Int) : ByteArray := ⟨⟨[UInt8.ofNat (IntKind.u8.wrap (IntKind.i64.wrap (48 + n))).toNat]⟩⟩
theorem t32 (k : Nat) (n : Int) : evBody MY (c32 k) lpC 32 [.v (.int .i64 n)] [] =
    bif decide (n < 10) then some (.v (.str (digB1 n)), []) else
      bif decide (0 ≤ IntKind.i64.wrap (n.tdiv 10)) && decide (IntKind.i64.wrap (n.tdiv 10) < 10 ^ (k + 1)) then
        bif catOk ⟨⟨decF (k + 1) (IntKind.i64.wrap (n.tdiv 10)).toNat⟩⟩ (digB1 (n.tmod 10)) then
          some (.v (.str (⟨⟨decF (k + 1) (IntKind.i64.wrap (n.tdiv 10)).toNat⟩⟩ ++ digB1 (n.tmod 10))), [])
        else none
      else none := by kernel_rfl
noncomputable def c32z : CallerK := evT MY [] [] 3
theorem t32z (n : Int) : evBody MY c32z lpC 32 [.v (.int .i64 n)] [] = bif decide (n < 10) then some (.v (.str (digB1 n)), []) else none := by kernel_rfl
theorem wrap_u8R {x : Int} (h0 : 0 ≤ x) (h1 : x < 256) : IntKind.u8.wrap x = x := by
  have h : IntKind.u8.wrap x = if (false && decide (x % 256 ≥ 128)) = true then x % 256 - 256 else x % 256 := rfl
  rw [h]
  simp only [Bool.false_and, Bool.false_eq_true, if_false]
  omega
theorem digB1_eq {u : Nat} (h : u < 10) : digB1 (u : Int) = ⟨⟨[UInt8.ofNat (48 + u)]⟩⟩ := by
  unfold digB1
  rw [wrap_i64R (x := 48 + (u : Int)) (by omega) (by omega), wrap_u8R (by omega) (by omega)]
  congr 4
theorem app_bytes (a b : List UInt8) : (⟨⟨a⟩⟩ : ByteArray) ++ ⟨⟨b⟩⟩ = ⟨⟨a ++ b⟩⟩ := by
  apply ext_bytes
  rw [ByteArray.data_append, Array.toList_append]
theorem decF_lenR : ∀ f u, (decF f u).length ≤ f
  | 0, u => Nat.le_refl _
  | f + 1, u => by
    unfold decF
    cases decide (u < 10) with
    | true => simp
    | false =>
      have := decF_lenR f (u / 10)
      simp only [cond_false, List.length_append, List.length_singleton]
      omega
theorem decF_one {f u : Nat} (h : u < 10) : decF (f + 1) u = [UInt8.ofNat (48 + u)] := by
  unfold decF
  rw [decide_eq_true h, cond_true]
theorem decF_ten {f u : Nat} (h : ¬ u < 10) : decF (f + 1) u = decF f (u / 10) ++ [UInt8.ofNat (48 + u % 10)] := by
  conv => lhs; unfold decF
  rw [decide_eq_false h, cond_false]
theorem decF_fuel : ∀ (k m u : Nat), u < 10 ^ (k + 1) → k ≤ m → decF (k + 1) u = decF (m + 1) u
  | 0, m, u, h, _ => by rw [decF_one (by simpa using h), decF_one (by simpa using h)]
  | k + 1, m, u, h, hm => by
    by_cases h1 : u < 10
    · rw [decF_one h1, decF_one h1]
    · obtain ⟨m, rfl⟩ : ∃ j, m = j + 1 := ⟨m - 1, by omega⟩
      rw [decF_ten h1, decF_ten h1, decF_fuel k m (u / 10) (by rw [Nat.pow_succ] at h; omega) (by omega)]
theorem c32_ok {k : Nat} (h : SumFOk PO 32 (y32n k)) : CallerKOk PO (c32 k) := evT_ok (M := MY) my_mixed (sumsC h sums0) inls0 3
theorem c32z_ok : CallerKOk PO c32z := evT_ok (M := MY) my_mixed sums0 inls0 3
theorem callY {c : CallerK} (hc : CallerKOk PO c) {f : FuncId} (hok : fnOkB PO f = true) (hf : f ≠ yid) {args : List D} {σ σ' : Sto} {d : D} (h : evBody MY c lpC f args σ = some (d, σ')) : CallSem PO f args σ d σ' := by
  obtain ⟨k1, k2⟩ := evBody_ok (M := MY) hc my_mixed lpC_ok (FnOk.of hok) h
  refine ⟨fun _ => k1, fun X us a1 a2 a3 a4 => ?_⟩
  unfold RunG
  rw [if_neg hf]
  exact k2 X us a1 a2 a3 a4
theorem o32n : ∀ k, k ≤ 17 → SumFOk PO 32 (y32n k) := by
  intro k
  induction k with
  | zero =>
    intro _ args σ R K r hr
    unfold y32n at hr
    split at hr
    · rename_i n
      obtain ⟨hc, hK⟩ := bif_then hr
      simp only [Bool.and_eq_true, decide_eq_true_eq] at hc
      refine ⟨_, _, hK, callY c32z_ok (by kernel_rfl) (by decide) ?_⟩
      obtain ⟨u, rfl⟩ : ∃ u : Nat, n = u := ⟨n.toNat, by omega⟩
      have hu : u < 10 := by omega
      rw [t32z, decide_eq_true (by omega), cond_true, digB1_eq hu, Int.toNat_natCast, decF_one hu]
    · cases hr
  | succ k ih =>
    intro hk args σ R K r hr
    unfold y32n at hr
    split at hr
    · rename_i n
      obtain ⟨hc, hK⟩ := bif_then hr
      simp only [Bool.and_eq_true, decide_eq_true_eq] at hc
      refine ⟨_, _, hK, callY (c32_ok (ih (by omega))) (by kernel_rfl) (by decide) ?_⟩
      obtain ⟨u, rfl⟩ : ∃ u : Nat, n = u := ⟨n.toNat, by omega⟩
      have hp : (10 : Nat) ^ (k + 1 + 1) ≤ 10 ^ 18 := Nat.pow_le_pow_right (by omega) (by omega)
      have h18 : (10 : Nat) ^ 18 = 1000000000000000000 := by decide
      have hu : u < 10 ^ (k + 1 + 1) := by exact_mod_cast hc.2
      rw [t32, Int.toNat_natCast]
      by_cases h1 : u < 10
      · rw [decide_eq_true (by omega), cond_true, digB1_eq h1, decF_one h1]
      · have e1 : ((u : Int)).tdiv 10 = ((u / 10 : Nat) : Int) := by rw [Int.tdiv_eq_ediv_of_nonneg (by omega)]; omega
        have e2 : ((u : Int)).tmod 10 = ((u % 10 : Nat) : Int) := by rw [Int.tmod_eq_emod_of_nonneg (by omega)]; omega
        have e3 : IntKind.i64.wrap ((u / 10 : Nat) : Int) = ((u / 10 : Nat) : Int) := wrap_i64 (by omega) (by omega)
        have hq : u / 10 < 10 ^ (k + 1) := by rw [Nat.pow_succ] at hu; omega
        have c1 : decide (((u / 10 : Nat) : Int) < 10 ^ (k + 1)) = true := decide_eq_true (by exact_mod_cast hq)
        have c2 : decide ((0 : Int) ≤ ((u / 10 : Nat) : Int)) = true := decide_eq_true (by omega)
        have c3 : decide (((u : Nat) : Int) < 10) = false := decide_eq_false (by omega)
        have c4 : catOk ⟨⟨decF (k + 1) (u / 10)⟩⟩ (digB1 ((u % 10 : Nat) : Int)) = true := by
          unfold catOk
          refine Nat.ble_eq_true_of_le ?_
          have := decF_lenR (k + 1) (u / 10)
          show (decF (k + 1) (u / 10)).length + 1 ≤ _
          omega
        rw [c3, cond_false, e1, e2, e3, c1, c2, Int.toNat_natCast, c4]
        simp only [Bool.and_self, cond_true]
        rw [digB1_eq (Nat.mod_lt _ (by omega)), app_bytes, decF_ten h1]
    · cases hr
def y32 : SumF := fun args σ _ K =>
  match args, σ with
  | [.v (.int .i64 n)], [] => bif decide (0 ≤ n) && decide (n < 1000000000000000000) then K (.v (.str ⟨⟨decF 20 n.toNat⟩⟩)) [] else none
  | _, _ => none
theorem oy32 : SumFOk PO 32 y32 := fun args σ R K r hr => by
  refine o32n 17 (by omega) args σ R K r ?_
  unfold y32 at hr
  split at hr
  · rename_i n
    obtain ⟨hc, hK⟩ := bif_then hr
    simp only [Bool.and_eq_true, decide_eq_true_eq] at hc
    unfold y32n
    have h18 : (10 : Int) ^ (17 + 1) = 1000000000000000000 := by decide
    simp only
    rw [decide_eq_true hc.1, decide_eq_true (by omega), Bool.and_self, cond_true, decF_fuel 17 19 n.toNat (by
      have : (10 : Nat) ^ (17 + 1) = 1000000000000000000 := by decide
      omega) (by omega)]
    exact hK
  · cases hr
end Go.Ab

/- The reference's Commit, Seed, Opens: they answer as the officer's. -/
namespace Go.Ab
open Go Go.Proofs
set_option maxRecDepth 100000
theorem itoaB_nn {n : Int} (h : 0 ≤ n) : itoaB n = ⟨⟨decF 20 n.toNat⟩⟩ := by
  unfold itoaB itoaL
  rw [decide_eq_false (by omega), cond_false]
def y32i : SumF := fun args σ _ K =>
  match args, σ with
  | [.v (.int .i64 n)], [] => bif decide (0 ≤ n) && decide (n < 1000000000000000000) then K (.v (.str (itoaB n))) [] else none
  | _, _ => none
theorem oy32i : SumFOk PO 32 y32i := fun args σ R K r hr => by
  refine oy32 args σ R K r ?_
  unfold y32i at hr
  split at hr
  · rename_i n
    obtain ⟨hc, hK⟩ := bif_then hr
    have hc' := hc
    simp only [Bool.and_eq_true, decide_eq_true_eq] at hc'
    unfold y32
    simp only
    rw [hc, cond_true, ← itoaB_nn hc'.1]
    exact hK
  · cases hr
def rl8 : List (FuncId × SumF) := [(31, y31), (32, y32i)]
theorem rl8_ok : ∀ p ∈ rl8, SumFOk PO p.1 p.2 := sumsC oy31 (sumsC oy32i sums0)
noncomputable def c8 : CallerK := evT MY rl8 [30, 57] 5
theorem c8_ok : CallerKOk PO c8 := evT_ok (M := MY) my_mixed rl8_ok (inlsC (by kernel_rfl) (inlsC (by kernel_rfl) inls0)) 5
def in18 (n : Int) : Bool := decide (0 ≤ n) && decide (n < 1000000000000000000)
theorem t8 (n : Int) (s : ByteArray) : evBody MY c8 lpC 8 [.v (.int .i64 n), .v (.str s)] [] =
    bif decide (n ≥ 0) then (bif !decide (n ≤ 1125899906842624) then errD else bif decide ((s.size : Int) < 1) then errD else bif decide ((s.size : Int) > 64) then errD else
      bif in18 n then (bif catOk (itoaB n) ⟨#[32]⟩ then (bif catOk (itoaB n ++ ⟨#[32]⟩) s then bif Nat.ble ((itoaB n ++ ⟨#[32]⟩) ++ s).size 1000000 then okD (digestB ((itoaB n ++ ⟨#[32]⟩) ++ s)) else none else none) else none) else none) else errD := by kernel_rfl
theorem t10 (n m : Int) : evBody MY c8 lpC 10 [.v (.int .i64 n), .v (.int .i64 m)] [] =
    bif decide (n ≥ 0) then (bif !decide (n ≤ 1125899906842624) then errD else bif decide (m ≥ 0) then (bif !decide (m ≤ 1125899906842624) then errD else
      bif in18 n then (bif catOk (itoaB n) ⟨#[32]⟩ then (bif in18 m then (bif catOk (itoaB n ++ ⟨#[32]⟩) (itoaB m) then bif Nat.ble ((itoaB n ++ ⟨#[32]⟩) ++ itoaB m).size 1000000 then okD (digestB ((itoaB n ++ ⟨#[32]⟩) ++ itoaB m)) else none else none) else none) else none) else none) else errD) else errD := by kernel_rfl
theorem in18_of {n : Int} (h : inM n = true) : in18 n = true := by
  unfold inM at h
  unfold in18
  simp only [Bool.and_eq_true, decide_eq_true_eq] at h ⊢
  omega
theorem ble3 (n : Int) {s : ByteArray} (h : s.size ≤ 1000) : Nat.ble ((itoaB n ++ ⟨#[32]⟩) ++ s).size 1000000 = true := Nat.ble_eq_true_of_le (by rw [cat_size, cat_size]; have := itoaB_size n; have : (⟨#[32]⟩ : ByteArray).size = 1 := rfl; omega)
theorem r8 (n : Int) (s : ByteArray) : evBody MY c8 lpC 8 [.v (.int .i64 n), .v (.str s)] [] = some (.tup [.v (.str (comD n s)), .v (.int .i64 (comE n s))], []) := by
  rw [t8]
  unfold comD comE comOk
  cases h1 : decide (n ≥ 0) with
  | false =>
    have : inM n = false := by unfold inM; rw [h1]; rfl
    rw [this]; rfl
  | true =>
    cases h2 : decide (n ≤ 1125899906842624) with
    | false =>
      have : inM n = false := by unfold inM; rw [h1, h2]; rfl
      rw [this]; rfl
    | true =>
      have hm : inM n = true := by unfold inM; rw [h1, h2]; rfl
      rw [hm]
      by_cases h3 : (s.size : Int) < 1
      · rw [decide_eq_true h3, decide_eq_false (show ¬ (s.size : Int) ≥ 1 by omega)]
        rfl
      · rw [decide_eq_false h3, decide_eq_true (show (s.size : Int) ≥ 1 by omega)]
        by_cases h4 : (s.size : Int) > 64
        · rw [decide_eq_true h4, decide_eq_false (show ¬ (s.size : Int) ≤ 64 by omega)]
          rfl
        · have hs : s.size ≤ 64 := by omega
          rw [decide_eq_false h4, decide_eq_true (show (s.size : Int) ≤ 64 by omega), in18_of hm, cat1, cat2 n (by omega), ble3 n (by omega)]
          rfl
theorem r10 (n m : Int) : evBody MY c8 lpC 10 [.v (.int .i64 n), .v (.int .i64 m)] [] = some (.tup [.v (.str (seedD n m)), .v (.int .i64 (seedE n m))], []) := by
  rw [t10]
  unfold seedD seedE seedOk
  cases h1 : decide (n ≥ 0) with
  | false => have : inM n = false := by unfold inM; rw [h1]; rfl
             rw [this]; rfl
  | true =>
    cases h2 : decide (n ≤ 1125899906842624) with
    | false => have : inM n = false := by unfold inM; rw [h1, h2]; rfl
               rw [this]; rfl
    | true =>
      have hn : inM n = true := by unfold inM; rw [h1, h2]; rfl
      cases h3 : decide (m ≥ 0) with
      | false => have : inM m = false := by unfold inM; rw [h3]; rfl
                 rw [hn, this]; rfl
      | true =>
        cases h4 : decide (m ≤ 1125899906842624) with
        | false => have : inM m = false := by unfold inM; rw [h3, h4]; rfl
                   rw [hn, this]; rfl
        | true =>
          have hm : inM m = true := by unfold inM; rw [h3, h4]; rfl
          rw [in18_of hn, in18_of hm, cat1, cat2 n (by have := itoaB_size m; omega), ble3 n (by have := itoaB_size m; omega), hn, hm]
          rfl
def y8 : SumF := y7
theorem oy8 : SumFOk PO 8 y7 := fun args σ R K r hr => by
  unfold y7 at hr
  split at hr
  · rename_i n s
    exact ⟨_, _, hr, call_of c8_ok (by kernel_rfl) (by decide) (r8 n s)⟩
  · cases hr
theorem oy10 : SumFOk PO 10 y9 := fun args σ R K r hr => by
  unfold y9 at hr
  split at hr
  · rename_i n m
    exact ⟨_, _, hr, call_of c8_ok (by kernel_rfl) (by decide) (r10 n m)⟩
  · cases hr
def rl16 : List (FuncId × SumF) := [(8, y7)]
theorem rl16_ok : ∀ p ∈ rl16, SumFOk PO p.1 p.2 := sumsC oy8 sums0
noncomputable def c16 : CallerK := evT MY rl16 [] 3
theorem c16_ok : CallerKOk PO c16 := evT_ok (M := MY) my_mixed rl16_ok inls0 3
theorem t16 (c s : ByteArray) (n : Int) : evBody MY c16 lpC 16 [.v (.str c), .v (.int .i64 n), .v (.str s)] [] = bif decide (comE n s = 0) then some (.v (.bool ((comD n s).toList == c.toList)), []) else some (.v (.bool false), []) := by kernel_rfl
theorem r16 (c s : ByteArray) (n : Int) : evBody MY c16 lpC 16 [.v (.str c), .v (.int .i64 n), .v (.str s)] [] = some (.v (.bool (openB c n s)), []) := by
  rw [t16]
  unfold openB comE
  cases comOk n s <;> rfl
theorem oy16 : SumFOk PO 16 y15 := fun args σ R K r hr => by
  unfold y15 at hr
  split at hr
  · rename_i c n s
    exact ⟨_, _, hr, call_of c16_ok (by kernel_rfl) (by decide) (r16 c s n)⟩
  · cases hr
end Go.Ab

/- The reference's sample: plain laws. -/
namespace Go.Ab
open Go Go.Proofs

theorem asc_ext {a b : List Int} (ha : asc a) (hb : asc b) (h : ∀ z, z ∈ a ↔ z ∈ b) : a = b :=
  sorted_uniq ((List.perm_ext_iff_of_nodup (asc_nodup ha) (asc_nodup hb)).2 h) (asc_le ha) (asc_le hb)
theorem asc_filter {a : List Int} (ha : asc a) (p : Int → Bool) : asc (a.filter p) := List.Pairwise.filter p ha
/-- A sample is what was picked of the IDs, in their own order. -/
theorem smp_filter {f : Nat → Nat → Nat} (hf : InF f) {ids : List Int} (h : asc ids) {m : Nat} (hm : m ≤ ids.length) :
    smp f ids m = ids.filter fun z => decide (z ∈ picks f 0 ids m) := by
  refine asc_ext (smp_asc hf h hm) (asc_filter h _) fun z => ?_
  rw [List.mem_filter, decide_eq_true_eq]
  exact ⟨fun hz => ⟨smp_sub hf hm hz, (sortI_perm _).subset hz⟩, fun ⟨_, h2⟩ => (sortI_perm _).symm.subset h2⟩

/-! ### Four bytes as a number -/
theorem w32 (x : Int) : IntKind.u32.wrap x = x % 4294967296 := by
  have h : IntKind.u32.wrap x = if (false && decide (x % 4294967296 ≥ 2147483648)) = true then x % 4294967296 - 4294967296 else x % 4294967296 := rfl
  rw [h]
  simp
theorem or_add {x y k : Nat} (hx : x < 2 ^ k) : x ||| (y * 2 ^ k) = x + y * 2 ^ k := by
  rw [Nat.or_comm, Nat.mul_comm, ← Nat.two_pow_add_eq_or_of_lt hx, Nat.add_comm]
theorem bvor (x y : Nat) (hx : x < 2 ^ 32) (hy : y < 2 ^ 32) : (BitVec.ofInt 32 (x : Int) ||| BitVec.ofInt 32 (y : Int)).toNat = x ||| y := by
  rw [BitVec.toNat_or, BitVec.toNat_ofInt, BitVec.toNat_ofInt]
  congr 1 <;> omega
def leN (a b c d : UInt8) : Nat := a.toNat + b.toNat * 2 ^ 8 + c.toNat * 2 ^ 16 + d.toNat * 2 ^ 24
theorem u8_lt (a : UInt8) : a.toNat < 256 := a.toNat_lt
theorem leN_lt (a b c d : UInt8) : leN a b c d < 4294967296 := by
  have := u8_lt a; have := u8_lt b; have := u8_lt c; have := u8_lt d
  unfold leN
  omega
theorem le32_sum (a b c d : UInt8) : le32 a b c d = (leN a b c d : Int) := by
  have ha := u8_lt a; have hb := u8_lt b; have hc := u8_lt c; have hd := u8_lt d
  have e0 : ∀ x : UInt8, IntKind.u32.wrap (Int.ofNat x.1.toNat) = (x.toNat : Int) := fun x => by
    have := u8_lt x
    exact wrap_u32 (by show (0 : Int) ≤ ((x.toNat : Nat) : Int); omega) (by show ((x.toNat : Nat) : Int) < _; omega)
  have e1 : IntKind.u32.wrap (((b.toNat : Nat) : Int) * Int.ofNat 256) = ((b.toNat * 2 ^ 8 : Nat) : Int) := by
    rw [wrap_u32 (by show (0 : Int) ≤ ((b.toNat : Nat) : Int) * 256; omega) (by show ((b.toNat : Nat) : Int) * 256 < _; omega)]
    show ((b.toNat : Nat) : Int) * 256 = _
    omega
  have e2 : IntKind.u32.wrap (((c.toNat : Nat) : Int) * Int.ofNat 65536) = ((c.toNat * 2 ^ 16 : Nat) : Int) := by
    rw [wrap_u32 (by show (0 : Int) ≤ ((c.toNat : Nat) : Int) * 65536; omega) (by show ((c.toNat : Nat) : Int) * 65536 < _; omega)]
    show ((c.toNat : Nat) : Int) * 65536 = _
    omega
  have e3 : IntKind.u32.wrap (((d.toNat : Nat) : Int) * Int.ofNat 16777216) = ((d.toNat * 2 ^ 24 : Nat) : Int) := by
    rw [wrap_u32 (by show (0 : Int) ≤ ((d.toNat : Nat) : Int) * 16777216; omega) (by show ((d.toNat : Nat) : Int) * 16777216 < _; omega)]
    show ((d.toNat : Nat) : Int) * 16777216 = _
    omega
  have wn : ∀ n : Nat, n < 4294967296 → IntKind.u32.wrap (Int.ofNat n) = (n : Int) := fun n h => wrap_u32 (by show (0 : Int) ≤ (n : Int); omega) (by show (n : Int) < _; omega)
  unfold le32
  rw [e0, e0, e0, e0, e1, e2, e3, bvor _ _ (by omega) (by omega), or_add (by omega : a.toNat < 2 ^ 8), wn (a.toNat + b.toNat * 2 ^ 8) (by omega),
    bvor _ _ (by omega) (by omega), or_add (by omega : a.toNat + b.toNat * 2 ^ 8 < 2 ^ 16), wn (a.toNat + b.toNat * 2 ^ 8 + c.toNat * 2 ^ 16) (by omega),
    bvor _ _ (by omega) (by omega), or_add (by omega : a.toNat + b.toNat * 2 ^ 8 + c.toNat * 2 ^ 16 < 2 ^ 24), wn _ (by omega)]
  rfl
end Go.Ab
