/- The evaluator for symbolic runs over this seat's program. -/
import Derived.Test.YtbhlffhfmgnleaaGreatDoorWB9
import Derived.Test.YtbhlffhfmgnleaaGreatDoorWC1
set_option linter.all false
namespace Go.Ab
open Go Go.Proofs
noncomputable def MY : Mode := { P := PO, byRef := byRefTab, hints := fun f k => bif Nat.beq (k % 3) 2 then (hintTab f).lookup k else none, frc := false, shp := true }
set_option maxRecDepth 100000 in
theorem my_mixed : MY.P.follows .mixedOrders = true := by kernel_rfl
end Go.Ab
namespace Go.Ab
open Go Go.Proofs
def itoaB (n : Int) : ByteArray := ⟨⟨itoaL n⟩⟩
def inI (n : Int) : Bool := decide (-9223372036854775808 ≤ n) && decide (n ≤ 9223372036854775807)
def y17 : SumF := fun args σ _ K =>
  match args, σ with
  | [.v (.int .i64 n)], [] => bif inI n then K (.v (.str (itoaB n))) [] else none
  | _, _ => none
def y18 : SumF := fun args σ _ K =>
  match args, σ with
  | [.v (.str s)], [] => K (.v (.str (digestB s))) []
  | _, _ => none
theorem oy17 : SumFOk PO 17 y17 := fun args σ R K r hr => by
  unfold y17 at hr
  split at hr
  · rename_i n
    obtain ⟨h1, h2⟩ := bif_then hr
    unfold inI at h1
    simp only [Bool.and_eq_true, decide_eq_true_eq] at h1
    exact ⟨_, _, h2, itoa_call h1.1 h1.2⟩
  · cases hr
theorem oy18 : SumFOk PO 18 y18 := fun args σ R K r hr => by
  unfold y18 at hr
  split at hr
  · rename_i s
    rw [← s18_eq s K] at hr
    exact o18 _ _ _ _ _ hr
  · cases hr
end Go.Ab
namespace Go.Ab
open Go Go.Proofs
def yl1 : List (FuncId × SumF) := [(17, y17), (18, y18)]
set_option maxRecDepth 100000 in
theorem yl1_ok : ∀ p ∈ yl1, SumFOk PO p.1 p.2 := sumsC oy17 (sumsC oy18 sums0)
set_option maxRecDepth 100000 in
theorem yin1 : ∀ f ∈ [28, 29], FnOk PO f := inlsC (by kernel_rfl) (inlsC (by kernel_rfl) inls0)
noncomputable def y1 : CallerK := evT MY yl1 [28, 29] 5
theorem y1_ok : CallerKOk PO y1 := evT_ok (M := MY) my_mixed yl1_ok yin1 5
end Go.Ab

/- officer.Commit, Seed, Opens. -/
namespace Go.Ab
open Go Go.Proofs
set_option maxRecDepth 100000

def inM (n : Int) : Bool := decide (n ≥ 0) && decide (n ≤ 1125899906842624)
def spB : ByteArray := ⟨#[32]⟩
def txt (n : Int) (s : ByteArray) : ByteArray := (itoaB n ++ ⟨#[32]⟩) ++ s
def noStr : ByteArray := ⟨#[]⟩
abbrev errD : Option (D × Sto) := some (.tup [.v (.str ⟨#[]⟩), .v (.int .i64 2)], [])
abbrev okD (s : ByteArray) : Option (D × Sto) := some (.tup [.v (.str s), .v (.int .i64 0)], [])

theorem t7 (n : Int) (s : ByteArray) : evBody MY y1 lpC 7 [.v (.int .i64 n), .v (.str s)] [] =
    bif decide (n ≥ 0) then (bif !decide (n ≤ 1125899906842624) then errD else bif decide ((s.size : Int) ≥ 1) then (bif !decide ((s.size : Int) ≤ 64) then errD else
      bif inI n then (bif catOk (itoaB n) ⟨#[32]⟩ then (bif catOk (itoaB n ++ ⟨#[32]⟩) s then okD (digestB ((itoaB n ++ ⟨#[32]⟩) ++ s)) else none) else none) else none) else errD) else errD := by kernel_rfl
theorem t9 (n m : Int) : evBody MY y1 lpC 9 [.v (.int .i64 n), .v (.int .i64 m)] [] =
    bif decide (n ≥ 0) then (bif !decide (n ≤ 1125899906842624) then errD else bif decide (m ≥ 0) then (bif !decide (m ≤ 1125899906842624) then errD else
      bif inI n then (bif inI m then (bif catOk (itoaB n) ⟨#[32]⟩ then (bif catOk (itoaB n ++ ⟨#[32]⟩) (itoaB m) then okD (digestB ((itoaB n ++ ⟨#[32]⟩) ++ itoaB m)) else none) else none) else none) else none) else errD) else errD := by kernel_rfl

theorem decF_len : ∀ f u, (decF f u).length ≤ f
  | 0, u => Nat.le_refl _
  | f + 1, u => by
    unfold decF
    cases decide (u < 10) with
    | true => simp
    | false =>
      have := decF_len f (u / 10)
      simp only [cond_false, List.length_append, List.length_singleton]
      omega
theorem itoaB_size (n : Int) : (itoaB n).size ≤ 21 := by
  show (itoaL n).length ≤ 21
  unfold itoaL
  cases decide (n < 0) with
  | true => have := decF_len 20 n.natAbs; simp only [cond_true, List.length_cons]; omega
  | false => have := decF_len 20 n.toNat; simp only [cond_false]; omega
theorem inI_of {n : Int} (h : inM n = true) : inI n = true := by
  unfold inM at h
  unfold inI
  simp only [Bool.and_eq_true, decide_eq_true_eq] at h ⊢
  omega
theorem catOk_of {a b : ByteArray} (h : a.size + b.size ≤ 1000000) : catOk a b = true := Nat.ble_eq_true_of_le (by omega)
theorem cat_size (a b : ByteArray) : (a ++ b).size = a.size + b.size := ByteArray.size_append
theorem cat1 (n : Int) : catOk (itoaB n) ⟨#[32]⟩ = true := catOk_of (by have := itoaB_size n; have : (⟨#[32]⟩ : ByteArray).size = 1 := rfl; omega)
theorem cat2 (n : Int) {s : ByteArray} (h : s.size ≤ 1000) : catOk (itoaB n ++ ⟨#[32]⟩) s = true := catOk_of (by rw [cat_size]; have := itoaB_size n; have : (⟨#[32]⟩ : ByteArray).size = 1 := rfl; omega)

def comOk (n : Int) (s : ByteArray) : Bool := inM n && (decide ((s.size : Int) ≥ 1) && decide ((s.size : Int) ≤ 64))
def comD (n : Int) (s : ByteArray) : ByteArray := bif comOk n s then digestB (txt n s) else ⟨#[]⟩
def comE (n : Int) (s : ByteArray) : Int := bif comOk n s then 0 else 2
def seedOk (n m : Int) : Bool := inM n && inM m
def seedD (n m : Int) : ByteArray := bif seedOk n m then digestB (txt n (itoaB m)) else ⟨#[]⟩
def seedE (n m : Int) : Int := bif seedOk n m then 0 else 2

theorem r7 (n : Int) (s : ByteArray) : evBody MY y1 lpC 7 [.v (.int .i64 n), .v (.str s)] [] = some (.tup [.v (.str (comD n s)), .v (.int .i64 (comE n s))], []) := by
  rw [t7]
  unfold comD comE comOk inM
  cases h1 : decide (n ≥ 0) with
  | false => rfl
  | true =>
    cases h2 : decide (n ≤ 1125899906842624) with
    | false => rfl
    | true =>
      cases h3 : decide ((s.size : Int) ≥ 1) with
      | false => rfl
      | true =>
        cases h4 : decide ((s.size : Int) ≤ 64) with
        | false => rfl
        | true =>
          have hm : inM n = true := by unfold inM; rw [h1, h2]; rfl
          have hs : s.size ≤ 64 := by have := of_decide_eq_true h4; omega
          rw [inI_of hm, cat1, cat2 n (by omega)]
          rfl
theorem r9 (n m : Int) : evBody MY y1 lpC 9 [.v (.int .i64 n), .v (.int .i64 m)] [] = some (.tup [.v (.str (seedD n m)), .v (.int .i64 (seedE n m))], []) := by
  rw [t9]
  unfold seedD seedE seedOk
  cases h1 : decide (n ≥ 0) with
  | false => have : inM n = false := by unfold inM; rw [h1]; rfl
             rw [this]; rfl
  | true =>
    cases h2 : decide (n ≤ 1125899906842624) with
    | false => have : inM n = false := by unfold inM; rw [h1, h2]; rfl
               rw [this]; rfl
    | true =>
      have hn : inM n = true := by unfold inM; rw [h1, h2]; rfl
      cases h3 : decide (m ≥ 0) with
      | false => have : inM m = false := by unfold inM; rw [h3]; rfl
                 rw [hn, this]; rfl
      | true =>
        cases h4 : decide (m ≤ 1125899906842624) with
        | false => have : inM m = false := by unfold inM; rw [h3, h4]; rfl
                   rw [hn, this]; rfl
        | true =>
          have hm : inM m = true := by unfold inM; rw [h3, h4]; rfl
          rw [inI_of hn, inI_of hm, cat1, cat2 n (by have := itoaB_size m; omega), hn, hm]
          rfl
def y7 : SumF := fun args σ _ K =>
  match args, σ with
  | [.v (.int .i64 n), .v (.str s)], [] => K (.tup [.v (.str (comD n s)), .v (.int .i64 (comE n s))]) []
  | _, _ => none
def y9 : SumF := fun args σ _ K =>
  match args, σ with
  | [.v (.int .i64 n), .v (.int .i64 m)], [] => K (.tup [.v (.str (seedD n m)), .v (.int .i64 (seedE n m))]) []
  | _, _ => none
theorem call_of {c : CallerK} (hc : CallerKOk PO c) {f : FuncId} (hok : fnOkB PO f = true) (hf : f ≠ yid) {args : List D} {σ σ' : Sto} {d : D} (h : evBody MY c lpC f args σ = some (d, σ')) : CallSem PO f args σ d σ' := by
  obtain ⟨k1, k2⟩ := evBody_ok (M := MY) hc my_mixed lpC_ok (FnOk.of hok) h
  refine ⟨fun _ => k1, fun X us a1 a2 a3 a4 => ?_⟩
  unfold RunG
  rw [if_neg hf]
  exact k2 X us a1 a2 a3 a4
theorem oy7 : SumFOk PO 7 y7 := fun args σ R K r hr => by
  unfold y7 at hr
  split at hr
  · rename_i n s
    exact ⟨_, _, hr, call_of y1_ok (by kernel_rfl) (by decide) (r7 n s)⟩
  · cases hr
theorem oy9 : SumFOk PO 9 y9 := fun args σ R K r hr => by
  unfold y9 at hr
  split at hr
  · rename_i n m
    exact ⟨_, _, hr, call_of y1_ok (by kernel_rfl) (by decide) (r9 n m)⟩
  · cases hr
def yl2 : List (FuncId × SumF) := [(7, y7)]
theorem yl2_ok : ∀ p ∈ yl2, SumFOk PO p.1 p.2 := sumsC oy7 sums0
noncomputable def y2 : CallerK := evT MY yl2 [] 3
theorem y2_ok : CallerKOk PO y2 := evT_ok (M := MY) my_mixed yl2_ok inls0 3
end Go.Ab

/- Texts of a number and a rest say both. -/
namespace Go.Ab
open Go Go.Proofs

def valL (l : List UInt8) : Nat := l.foldl (fun v b => 10 * v + (b.toNat - 48)) 0
theorem valL_snoc (l : List UInt8) (b : UInt8) : valL (l ++ [b]) = 10 * valL l + (b.toNat - 48) := by simp [valL, List.foldl_append]
theorem dig_toNat {u : Nat} (h : u < 10) : (UInt8.ofNat (48 + u)).toNat = 48 + u := by
  rw [UInt8.toNat_ofNat']
  exact Nat.mod_eq_of_lt (by omega)
theorem decF_digits : ∀ f u, ∀ b ∈ decF f u, 48 ≤ b.toNat ∧ b.toNat ≤ 57
  | 0, u, b, h => by simp [decF] at h
  | f + 1, u, b, h => by
    unfold decF at h
    by_cases hu : u < 10
    · simp only [hu, decide_true, cond_true, List.mem_singleton] at h
      subst h
      rw [dig_toNat hu]
      omega
    · simp only [hu, decide_false, cond_false, List.mem_append, List.mem_singleton] at h
      rcases h with h | h
      · exact decF_digits f _ b h
      · subst h
        rw [dig_toNat (Nat.mod_lt _ (by decide))]
        have := Nat.mod_lt u (show 10 > 0 by decide)
        omega
theorem decF_val : ∀ f u, u < 10 ^ f → valL (decF f u) = u
  | 0, u, h => by
    have : u = 0 := by simpa using h
    subst this
    rfl
  | f + 1, u, h => by
    unfold decF
    by_cases hu : u < 10
    · simp only [hu, decide_true, cond_true]
      show valL ([] ++ [_]) = u
      rw [valL_snoc, dig_toNat hu]
      simp [valL]
    · simp only [hu, decide_false, cond_false]
      rw [valL_snoc, decF_val f (u / 10) (by rw [Nat.pow_succ] at h; omega), dig_toNat (Nat.mod_lt _ (by decide))]
      omega
theorem itoaL_nat {n : Int} (h : inM n = true) : itoaL n = decF 20 n.toNat ∧ n.toNat < 10 ^ 20 ∧ 0 ≤ n := by
  unfold inM at h
  simp only [Bool.and_eq_true, decide_eq_true_eq] at h
  refine ⟨?_, by omega, by omega⟩
  unfold itoaL
  rw [decide_eq_false (by omega)]
  rfl
theorem itoaL_inj {a b : Int} (ha : inM a = true) (hb : inM b = true) (h : itoaL a = itoaL b) : a = b := by
  obtain ⟨a1, a2, a3⟩ := itoaL_nat ha
  obtain ⟨b1, b2, b3⟩ := itoaL_nat hb
  have := congrArg valL (a1.symm.trans (h.trans b1))
  rw [decF_val _ _ a2, decF_val _ _ b2] at this
  omega
theorem itoaL_no32 {a : Int} (ha : inM a = true) : (32 : UInt8) ∉ itoaL a := fun h => by
  rw [(itoaL_nat ha).1] at h
  have := (decF_digits _ _ _ h).1
  simp at this
theorem split32 : ∀ {l1 l2 r1 r2 : List UInt8}, (32 : UInt8) ∉ l1 → (32 : UInt8) ∉ l2 → l1 ++ 32 :: r1 = l2 ++ 32 :: r2 → l1 = l2 ∧ r1 = r2
  | [], [], r1, r2, _, _, h => by simpa using h
  | [], b :: l2, r1, r2, _, h2, h => by
    simp only [List.nil_append, List.cons_append, List.cons.injEq] at h
    exact absurd (by rw [← h.1]; simp) h2
  | a :: l1, [], r1, r2, h1, _, h => by
    simp only [List.nil_append, List.cons_append, List.cons.injEq] at h
    exact absurd (by rw [h.1]; simp) h1
  | a :: l1, b :: l2, r1, r2, h1, h2, h => by
    simp only [List.cons_append, List.cons.injEq] at h
    obtain ⟨e1, e2⟩ := split32 (fun hh => h1 (by simp [hh])) (fun hh => h2 (by simp [hh])) h.2
    exact ⟨by rw [h.1, e1], e2⟩
theorem txt_bytes (n : Int) (s : ByteArray) : (txt n s).data.toList = itoaL n ++ 32 :: s.data.toList := by
  unfold txt
  rw [ByteArray.toList_data_append, ByteArray.toList_data_append]
  show (itoaL n ++ [32]) ++ _ = _
  simp
theorem ext_bytes' {a b : ByteArray} (h : a.data.toList = b.data.toList) : a = b := by
  cases a; cases b; rename_i a b; cases a; cases b; simp_all
theorem txt_inj {a b : Int} {s t : ByteArray} (ha : inM a = true) (hb : inM b = true) (h : txt a s = txt b t) : a = b ∧ s = t := by
  have h := congrArg (fun x : ByteArray => x.data.toList) h
  simp only [txt_bytes] at h
  obtain ⟨h1, h2⟩ := split32 (itoaL_no32 ha) (itoaL_no32 hb) h
  exact ⟨itoaL_inj ha hb h1, ext_bytes' h2⟩
theorem beq_bytes {a b : ByteArray} : (a.toList == b.toList) = decide (a = b) := by
  rw [Bool.eq_iff_iff, beq_iff_eq, decide_eq_true_eq, ByteArray.toList_eq, ByteArray.toList_eq]
  exact ⟨ext_bytes', fun h => by rw [h]⟩
end Go.Ab

/- officer.Opens; what the law calls. -/
namespace Go.Ab
open Go Go.Proofs
set_option maxRecDepth 100000
def openB (c : ByteArray) (n : Int) (s : ByteArray) : Bool := comOk n s && ((comD n s).toList == c.toList)
theorem t15 (c s : ByteArray) (n : Int) : evBody MY y2 lpC 15 [.v (.str c), .v (.int .i64 n), .v (.str s)] [] = bif decide (comE n s = 0) then some (.v (.bool ((comD n s).toList == c.toList)), []) else some (.v (.bool false), []) := by kernel_rfl
theorem r15 (c s : ByteArray) (n : Int) : evBody MY y2 lpC 15 [.v (.str c), .v (.int .i64 n), .v (.str s)] [] = some (.v (.bool (openB c n s)), []) := by
  rw [t15]
  unfold openB comE
  cases comOk n s <;> rfl
def y15 : SumF := fun args σ _ K =>
  match args, σ with
  | [.v (.str c), .v (.int .i64 n), .v (.str s)], [] => K (.v (.bool (openB c n s))) []
  | _, _ => none
theorem oy15 : SumFOk PO 15 y15 := fun args σ R K r hr => by
  unfold y15 at hr
  split at hr
  · rename_i c n s
    exact ⟨_, _, hr, call_of y2_ok (by kernel_rfl) (by decide) (r15 c s n)⟩
  · cases hr
def y6 : SumF := fun args σ _ K =>
  match args, σ with
  | [], [] => K (.v (.bool true)) []
  | _, _ => none
theorem oy6 : SumFOk PO 6 y6 := fun args σ R K r hr => by
  unfold y6 at hr
  split at hr
  · exact ⟨_, _, hr, awake_sem⟩
  · cases hr
def yl3 : List (FuncId × SumF) := [(6, y6), (7, y7), (9, y9), (15, y15), (17, y17), (18, y18)]
theorem yl3_ok : ∀ p ∈ yl3, SumFOk PO p.1 p.2 := sumsC oy6 (sumsC oy7 (sumsC oy9 (sumsC oy15 (sumsC oy17 (sumsC oy18 sums0)))))
noncomputable def y3 : CallerK := evT MY yl3 [] 3
theorem y3_ok : CallerKOk PO y3 := evT_ok (M := MY) my_mixed yl3_ok inls0 3
end Go.Ab
