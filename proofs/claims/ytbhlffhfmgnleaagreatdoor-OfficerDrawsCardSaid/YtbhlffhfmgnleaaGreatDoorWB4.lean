/- What book.block computes, joined. -/
import Derived.Test.YtbhlffhfmgnleaaGreatDoorWB2
import Derived.Test.YtbhlffhfmgnleaaGreatDoorWB3
set_option linter.all false
namespace Go.Ab
open Go
/-- The words of a block. -/
def mGo : List UInt8 → Nat → List Int → List Int
  | [], _, m => m
  | b :: bs, i, m => mGo bs (i + 1) (putByte i b m)
def rounds (m : List Int) (v : List Int) : List Int := roundL m 9 (roundL m 8 (roundL m 7 (roundL m 6 (roundL m 5 (roundL m 4 (roundL m 3 (roundL m 2 (roundL m 1 (roundL m 0 v)))))))))
/-- The state behind a block. -/
def blkL (h : List Int) (s : ByteArray) (e : Int) (l : Bool) : List Int := endL h (rounds (mGo s.toList 0 (List.replicate 16 0)) (vOf h e l))

theorem len16 {l : List Int} (h : l.length = 16) : ∃ a0 a1 a2 a3 a4 a5 a6 a7 a8 a9 a10 a11 a12 a13 a14 a15, l = [a0, a1, a2, a3, a4, a5, a6, a7, a8, a9, a10, a11, a12, a13, a14, a15] := by
  match l, h with
  | [a0, a1, a2, a3, a4, a5, a6, a7, a8, a9, a10, a11, a12, a13, a14, a15], _ => exact ⟨_, _, _, _, _, _, _, _, _, _, _, _, _, _, _, _, rfl⟩
theorem len8 {l : List Int} (h : l.length = 8) : ∃ a0 a1 a2 a3 a4 a5 a6 a7, l = [a0, a1, a2, a3, a4, a5, a6, a7] := by
  match l, h with
  | [a0, a1, a2, a3, a4, a5, a6, a7], _ => exact ⟨_, _, _, _, _, _, _, _, rfl⟩

theorem putByte_len (i : Nat) (b : UInt8) (m : List Int) : (putByte i b m).length = m.length := by simp [putByte]
theorem mGo_len : ∀ (bs : List UInt8) (i : Nat) (m : List Int), (mGo bs i m).length = m.length
  | [], _, _ => rfl
  | b :: bs, i, m => by rw [mGo, mGo_len bs, putByte_len]
theorem mixL_len (q : List Nat) (x y : Int) (v : List Int) : (mixL q x y v).length = v.length := by simp [mixL]
theorem roundGo_len (m : List Int) : ∀ (qs : List (List Nat)) (s : List Nat) (v : List Int), (roundGo m qs s v).length = v.length
  | [], _, _ => rfl
  | q :: qs, [], v => rfl
  | q :: qs, [a], v => rfl
  | q :: qs, a :: b :: s, v => by rw [roundGo, roundGo_len m qs, mixL_len]
theorem roundL_len (m : List Int) (r : Nat) (v : List Int) : (roundL m r v).length = v.length := roundGo_len _ _ _ _
theorem vOf_len (h : List Int) (e : Int) (l : Bool) : (vOf h e l).length = h.length + 8 := by
  cases l <;> simp [vOf, firstN]
theorem endL_len (h v : List Int) : (endL h v).length = 8 := by simp [endL]
theorem rounds_len (m : List Int) (v : List Int) : (rounds m v).length = v.length := by simp only [rounds, roundL_len]

abbrev rB (l : List Int) : Row := .box 82 (List.map I32 l)
abbrev rM (l : List Int) : Row := .box 117 (List.map I32 l)

/-- The bytes are read. -/
theorem loopA (lp : Looper) (s : ByteArray) (hs : s.size ≤ 64) (e : Int) (l : Bool) {h : List Int} (hh : h.length = 8) : ∀ (k i n : Nat) (m : List Int), i + k = s.size → m.length = 16 →
    loopN 0 (blkA lp) (n + k + 1) (envA s e l (i : Nat)) [rB h, .box 82 zD, rM m] = some (.exit 0, envA s e l (s.size : Nat), [rB h, .box 82 zD, rM (mGo (s.toList.drop i) i m)]) := by
  intro k
  induction k with
  | zero =>
    intro i n m hi hm
    obtain ⟨h0, h1, h2, h3, h4, h5, h6, h7, rfl⟩ := len8 hh
    have hd : s.toList.drop i = [] := by
      apply List.drop_eq_nil_of_le
      rw [Lib.toList_data]
      have : s.data.size = s.size := rfl
      simp
      omega
    rw [hd]
    simp only [mGo]
    obtain ⟨m0, m1, m2, m3, m4, m5, m6, m7, m8, m9, m10, m11, m12, m13, m14, m15, rfl⟩ := len16 hm
    simp only [loopN, headA, Option.bind_some]
    have hi' : i = s.size := by omega
    subst hi'
    rcases Nat.lt_or_ge s.size 64 with h64 | h64
    · rw [bytA lp s e l _ _ _ _ _ _ _ _ _ _ _ _ _ _ _ _ _ _ _ _ _ _ _ _ s.size h64]
      simp [onEx]
    · have h64 : s.size = 64 := by omega
      have := bytA64 lp s e l h0 h1 h2 h3 h4 h5 h6 h7 m0 m1 m2 m3 m4 m5 m6 m7 m8 m9 m10 m11 m12 m13 m14 m15
      rw [h64] at this ⊢
      erw [this]
      simp [onEx]
  | succ k ih =>
    intro i n m hi hm
    have hlt : i < s.toList.length := by
      rw [Lib.toList_data]
      have : s.data.size = s.size := rfl
      simp
      omega
    have hd : s.toList.drop i = s.toList[i] :: s.toList.drop (i + 1) := List.drop_eq_getElem_cons hlt
    rw [hd]
    simp only [mGo]
    have ih' := ih (i + 1) n (putByte i s.toList[i] m) (by omega) (by rw [putByte_len]; exact hm)
    rw [← ih']
    obtain ⟨h0, h1, h2, h3, h4, h5, h6, h7, rfl⟩ := len8 hh
    obtain ⟨m0, m1, m2, m3, m4, m5, m6, m7, m8, m9, m10, m11, m12, m13, m14, m15, rfl⟩ := len16 hm
    rw [show n + (k + 1) + 1 = (n + k + 1) + 1 from rfl, loopN]
    simp only [headA, Option.bind_some]
    rw [bytA lp s e l _ _ _ _ _ _ _ _ _ _ _ _ _ _ _ _ _ _ _ _ _ _ _ _ i (by omega)]
    have hdec : decide (((i : Nat) : Int) < (s.size : Int)) = true := by simp; omega
    rw [hdec, cond_true, List.getElem?_eq_getElem hlt]
    simp only [Option.bind_some, onEx]

theorem loopC (n : Nat) {h m v : List Int} (hh : h.length = 8) (hm : m.length = 16) (hv : v.length = 16) :
    loopN 0 (blkC (fun _ k body => loopN k body (n + 20))) (n + 20) (envC 0) [rB h, .box 82 zD, rM m, rM v] = some (.exit 4, envC 10, [rB h, .box 82 zD, rM m, rM (rounds m v)]) := by
  obtain ⟨h0, h1, h2, h3, h4, h5, h6, h7, rfl⟩ := len8 hh
  obtain ⟨m0, m1, m2, m3, m4, m5, m6, m7, m8, m9, m10, m11, m12, m13, m14, m15, rfl⟩ := len16 hm
  have first : ∀ (v : List Int) (k : Nat) (hv : v.length = 16) (o : Option Out), (∀ v0 v1 v2 v3 v4 v5 v6 v7 v8 v9 v10 v11 v12 v13 v14 v15, v = [v0, v1, v2, v3, v4, v5, v6, v7, v8, v9, v10, v11, v12, v13, v14, v15] → loopN 0 (blkC (fun _ k body => loopN k body (n + 20))) k (envC 0) [rB [h0, h1, h2, h3, h4, h5, h6, h7], .box 82 zD, rM [m0, m1, m2, m3, m4, m5, m6, m7, m8, m9, m10, m11, m12, m13, m14, m15], rM v] = o) → loopN 0 (blkC (fun _ k body => loopN k body (n + 20))) k (envC 0) [rB [h0, h1, h2, h3, h4, h5, h6, h7], .box 82 zD, rM [m0, m1, m2, m3, m4, m5, m6, m7, m8, m9, m10, m11, m12, m13, m14, m15], rM v] = o := by
    intro v k hv o hk
    obtain ⟨v0, v1, v2, v3, v4, v5, v6, v7, v8, v9, v10, v11, v12, v13, v14, v15, rfl⟩ := len16 hv
    exact hk _ _ _ _ _ _ _ _ _ _ _ _ _ _ _ _ rfl
  clear first
  generalize hM : ([m0, m1, m2, m3, m4, m5, m6, m7, m8, m9, m10, m11, m12, m13, m14, m15] : List Int) = M
  have step : ∀ (r : Nat) (k : Nat) (v : List Int), v.length = 16 → r < 10 → ∀ (σ : Sto), (head 0 (envC (r : Nat)) σ = some (envC (r : Nat), [rB [h0, h1, h2, h3, h4, h5, h6, h7], .box 82 zD, rM M, rM v])) →
      ∃ x, loopN 0 (blkC (fun _ k body => loopN k body (n + 20))) (k + 1) (envC (r : Nat)) σ = loopN 0 (blkC (fun _ k body => loopN k body (n + 20))) k (envC ((r + 1 : Nat) : Int)) [rB [h0, h1, h2, h3, h4, h5, h6, h7], .box 82 zD, rM M, rM (roundL M r v), x] := by
    intro r k v hv hr σ hσ
    subst hM
    obtain ⟨v0, v1, v2, v3, v4, v5, v6, v7, v8, v9, v10, v11, v12, v13, v14, v15, rfl⟩ := len16 hv
    refine ⟨.box 118 ((orderN.getD r []).map fun (n : Nat) => I8 n), ?_⟩
    rw [loopN, hσ]
    simp only [Option.bind_some]
    have : blkC (fun _ k body => loopN k body (n + 20)) (envC (r : Nat)) [rB [h0, h1, h2, h3, h4, h5, h6, h7], .box 82 zD, rM [m0, m1, m2, m3, m4, m5, m6, m7, m8, m9, m10, m11, m12, m13, m14, m15], rM [v0, v1, v2, v3, v4, v5, v6, v7, v8, v9, v10, v11, v12, v13, v14, v15]] =
        some (.normal, envC ((r + 1 : Nat) : Int), [rB [h0, h1, h2, h3, h4, h5, h6, h7], .box 82 zD, rM [m0, m1, m2, m3, m4, m5, m6, m7, m8, m9, m10, m11, m12, m13, m14, m15], rM (roundL [m0, m1, m2, m3, m4, m5, m6, m7, m8, m9, m10, m11, m12, m13, m14, m15] r [v0, v1, v2, v3, v4, v5, v6, v7, v8, v9, v10, v11, v12, v13, v14, v15]), .box 118 ((orderN.getD r []).map fun (n : Nat) => I8 n)]) := by
      match r, hr with
      | 0, _ => exact mixR0 _ _ _ _ _ _ _ _ _ _ _ _ _ _ _ _ _ _ _ _ _ _ _ _ _ _ _ _ _ _ _ _ _ _ _ _ _ _ _ _ _
      | 1, _ => exact mixR1 _ _ _ _ _ _ _ _ _ _ _ _ _ _ _ _ _ _ _ _ _ _ _ _ _ _ _ _ _ _ _ _ _ _ _ _ _ _ _ _ _
      | 2, _ => exact mixR2 _ _ _ _ _ _ _ _ _ _ _ _ _ _ _ _ _ _ _ _ _ _ _ _ _ _ _ _ _ _ _ _ _ _ _ _ _ _ _ _ _
      | 3, _ => exact mixR3 _ _ _ _ _ _ _ _ _ _ _ _ _ _ _ _ _ _ _ _ _ _ _ _ _ _ _ _ _ _ _ _ _ _ _ _ _ _ _ _ _
      | 4, _ => exact mixR4 _ _ _ _ _ _ _ _ _ _ _ _ _ _ _ _ _ _ _ _ _ _ _ _ _ _ _ _ _ _ _ _ _ _ _ _ _ _ _ _ _
      | 5, _ => exact mixR5 _ _ _ _ _ _ _ _ _ _ _ _ _ _ _ _ _ _ _ _ _ _ _ _ _ _ _ _ _ _ _ _ _ _ _ _ _ _ _ _ _
      | 6, _ => exact mixR6 _ _ _ _ _ _ _ _ _ _ _ _ _ _ _ _ _ _ _ _ _ _ _ _ _ _ _ _ _ _ _ _ _ _ _ _ _ _ _ _ _
      | 7, _ => exact mixR7 _ _ _ _ _ _ _ _ _ _ _ _ _ _ _ _ _ _ _ _ _ _ _ _ _ _ _ _ _ _ _ _ _ _ _ _ _ _ _ _ _
      | 8, _ => exact mixR8 _ _ _ _ _ _ _ _ _ _ _ _ _ _ _ _ _ _ _ _ _ _ _ _ _ _ _ _ _ _ _ _ _ _ _ _ _ _ _ _ _
      | 9, _ => exact mixR9 _ _ _ _ _ _ _ _ _ _ _ _ _ _ _ _ _ _ _ _ _ _ _ _ _ _ _ _ _ _ _ _ _ _ _ _ _ _ _ _ _
    rw [this]
    simp only [Option.bind_some, onEx]
  have hd0 : ∀ (r : Nat) (v : List Int), v.length = 16 → head 0 (envC (r : Nat)) [rB [h0, h1, h2, h3, h4, h5, h6, h7], .box 82 zD, rM M, rM v] = some (envC (r : Nat), [rB [h0, h1, h2, h3, h4, h5, h6, h7], .box 82 zD, rM M, rM v]) := by
    intro r v hv
    subst hM
    obtain ⟨v0, v1, v2, v3, v4, v5, v6, v7, v8, v9, v10, v11, v12, v13, v14, v15, rfl⟩ := len16 hv
    exact headC0 _ _ _ _ _ _ _ _ _ _ _ _ _ _ _ _ _ _ _ _ _ _ _ _ _ _ _ _ _ _ _ _ _ _ _ _ _ _ _ _ _
  have hd1 : ∀ (r : Nat) (x : Row) (v : List Int), v.length = 16 → head 0 (envC (r : Nat)) [rB [h0, h1, h2, h3, h4, h5, h6, h7], .box 82 zD, rM M, rM v, x] = some (envC (r : Nat), [rB [h0, h1, h2, h3, h4, h5, h6, h7], .box 82 zD, rM M, rM v]) := by
    intro r x v hv
    subst hM
    obtain ⟨v0, v1, v2, v3, v4, v5, v6, v7, v8, v9, v10, v11, v12, v13, v14, v15, rfl⟩ := len16 hv
    exact headC1 _ _ _ _ _ _ _ _ _ _ _ _ _ _ _ _ _ _ _ _ _ _ _ _ _ _ _ _ _ _ _ _ _ _ _ _ _ _ _ _ _ _
  have l0 := hv
  obtain ⟨x0, e0⟩ := step 0 (n + 19) v l0 (by omega) _ (hd0 0 v l0)
  have l1 : (roundL M 0 v).length = 16 := by rw [roundL_len]; exact l0
  obtain ⟨x1, e1⟩ := step 1 (n + 18) _ l1 (by omega) _ (hd1 1 x0 _ l1)
  have l2 : (roundL M 1 (roundL M 0 v)).length = 16 := by rw [roundL_len]; exact l1
  obtain ⟨x2, e2⟩ := step 2 (n + 17) _ l2 (by omega) _ (hd1 2 x1 _ l2)
  have l3 := (roundL_len M 2 _).trans l2
  obtain ⟨x3, e3⟩ := step 3 (n + 16) _ l3 (by omega) _ (hd1 3 x2 _ l3)
  have l4 := (roundL_len M 3 _).trans l3
  obtain ⟨x4, e4⟩ := step 4 (n + 15) _ l4 (by omega) _ (hd1 4 x3 _ l4)
  have l5 := (roundL_len M 4 _).trans l4
  obtain ⟨x5, e5⟩ := step 5 (n + 14) _ l5 (by omega) _ (hd1 5 x4 _ l5)
  have l6 := (roundL_len M 5 _).trans l5
  obtain ⟨x6, e6⟩ := step 6 (n + 13) _ l6 (by omega) _ (hd1 6 x5 _ l6)
  have l7 := (roundL_len M 6 _).trans l6
  obtain ⟨x7, e7⟩ := step 7 (n + 12) _ l7 (by omega) _ (hd1 7 x6 _ l7)
  have l8 := (roundL_len M 7 _).trans l7
  obtain ⟨x8, e8⟩ := step 8 (n + 11) _ l8 (by omega) _ (hd1 8 x7 _ l8)
  have l9 := (roundL_len M 8 _).trans l8
  obtain ⟨x9, e9⟩ := step 9 (n + 10) _ l9 (by omega) _ (hd1 9 x8 _ l9)
  have l10 := (roundL_len M 9 _).trans l9
  refine e0.trans (e1.trans (e2.trans (e3.trans (e4.trans (e5.trans (e6.trans (e7.trans (e8.trans (e9.trans ?_)))))))))
  have hh := hd1 10 x9 _ l10
  rw [loopN]
  erw [hh]
  simp only [Option.bind_some]
  subst hM
  obtain ⟨v0, v1, v2, v3, v4, v5, v6, v7, v8, v9, v10, v11, v12, v13, v14, v15, hv'⟩ := len16 l10
  simp only [rounds]
  rw [hv']
  erw [mixR10]
  simp only [Option.bind_some, onEx]

theorem block_ok (n : Nat) {h : List Int} (hh : h.length = 8) (s : ByteArray) (hs : s.size ≤ 64) (e : Int) (l : Bool) :
    evBody MO cO (fun _ k body => loopN k body (n + 65)) 38 [.agg (List.map I32 h), .v (.str s), U64 e, .v (.bool l)] [] = some (.agg (List.map I32 (blkL h s e l)), []) := by
  have hA := loopA (fun _ k body => loopN k body (n + 65)) s hs e l hh s.size 0 (n + 64 - s.size) (List.replicate 16 0) (by omega) (by simp)
  rw [show n + 64 - s.size + s.size + 1 = n + 65 from by omega] at hA
  obtain ⟨h0, h1, h2, h3, h4, h5, h6, h7, rfl⟩ := len8 hh
  rw [stepA]
  have e0 : ([.box 82 (List.map I32 [h0, h1, h2, h3, h4, h5, h6, h7]), .box 82 zD, .box 117 (List.replicate 16 (I32 0))] : Sto) = [rB [h0, h1, h2, h3, h4, h5, h6, h7], .box 82 zD, rM (List.replicate 16 0)] := rfl
  rw [e0]
  erw [hA]
  rw [Option.bind_some, List.drop_zero]
  have hml : (mGo s.toList 0 (List.replicate 16 0)).length = 16 := by rw [mGo_len]; simp
  unfold blkL
  generalize mGo s.toList 0 (List.replicate 16 0) = M at hml
  obtain ⟨m0, m1, m2, m3, m4, m5, m6, m7, m8, m9, m10, m11, m12, m13, m14, m15, rfl⟩ := len16 hml
  rw [stepB]
  have hB := loopB (n + 56) (fun _ k body => loopN k body (n + 65)) e l h0 h1 h2 h3 h4 h5 h6 h7 m0 m1 m2 m3 m4 m5 m6 m7 m8 m9 m10 m11 m12 m13 m14 m15
  rw [show n + 56 + 9 = n + 65 from rfl] at hB
  erw [hB]
  rw [Option.bind_some]
  have hvl : (vOf [h0, h1, h2, h3, h4, h5, h6, h7] e l).length = 16 := by rw [vOf_len]; rfl
  have hC := loopC (n + 45) hh hml hvl
  rw [show n + 45 + 20 = n + 65 from rfl] at hC
  have hfin : contC (fun _ k body => loopN k body (n + 65)) 4 [1,1,1,1,1,1,1,1,1] (.exit 4, envC 10, [rB [h0, h1, h2, h3, h4, h5, h6, h7], .box 82 zD, rM [m0, m1, m2, m3, m4, m5, m6, m7, m8, m9, m10, m11, m12, m13, m14, m15], rM (rounds [m0, m1, m2, m3, m4, m5, m6, m7, m8, m9, m10, m11, m12, m13, m14, m15] (vOf [h0, h1, h2, h3, h4, h5, h6, h7] e l))]) =
      some (.agg (List.map I32 (endL [h0, h1, h2, h3, h4, h5, h6, h7] (rounds [m0, m1, m2, m3, m4, m5, m6, m7, m8, m9, m10, m11, m12, m13, m14, m15] (vOf [h0, h1, h2, h3, h4, h5, h6, h7] e l)))), []) := by
    have hrl : (rounds [m0, m1, m2, m3, m4, m5, m6, m7, m8, m9, m10, m11, m12, m13, m14, m15] (vOf [h0, h1, h2, h3, h4, h5, h6, h7] e l)).length = 16 := by rw [rounds_len]; exact hvl
    generalize rounds [m0, m1, m2, m3, m4, m5, m6, m7, m8, m9, m10, m11, m12, m13, m14, m15] (vOf [h0, h1, h2, h3, h4, h5, h6, h7] e l) = W at hrl
    obtain ⟨v0, v1, v2, v3, v4, v5, v6, v7, v8, v9, v10, v11, v12, v13, v14, v15, rfl⟩ := len16 hrl
    rw [stepD]
    have hD := loopD (n + 56) (fun _ k body => loopN k body (n + 65)) h0 h1 h2 h3 h4 h5 h6 h7 m0 m1 m2 m3 m4 m5 m6 m7 m8 m9 m10 m11 m12 m13 m14 m15 v0 v1 v2 v3 v4 v5 v6 v7 v8 v9 v10 v11 v12 v13 v14 v15
    rw [show n + 56 + 9 = n + 65 from rfl] at hD
    erw [hD]
    rw [Option.bind_some]
    generalize endL [h0, h1, h2, h3, h4, h5, h6, h7] [v0, v1, v2, v3, v4, v5, v6, v7, v8, v9, v10, v11, v12, v13, v14, v15] = H, endL_len [h0, h1, h2, h3, h4, h5, h6, h7] [v0, v1, v2, v3, v4, v5, v6, v7, v8, v9, v10, v11, v12, v13, v14, v15] = hH
    obtain ⟨g0, g1, g2, g3, g4, g5, g6, g7, rfl⟩ := len8 hH
    exact stepE _ 8 _ _ _ _ _ _ _ _ _ _ _ _ _ _ _ _ _ _ _ _ _ _ _ _
  cases l with
  | true =>
    rw [stepCt]
    erw [hC]
    rw [Option.bind_some]
    exact hfin
  | false =>
    rw [stepCf]
    erw [hC]
    rw [Option.bind_some]
    exact hfin

end Go.Ab

/- book.Digest over the summary of book.block. -/
namespace Go.Ab
open Go
def ints : List D → Option (List Int)
  | [] => some []
  | .v (.int .u32 n) :: ds => (ints ds).bind fun l => some (n :: l)
  | _ => none
def blkS (args : List D) (σ : Sto) : Option (D × Sto) :=
  match args, σ with
  | [.agg hs, .v (.str s), .v (.int .u64 e), .v (.bool l)], [] => (ints hs).bind fun h => bif h.length == 8 && decide (s.size ≤ 64) then some (.agg (List.map I32 (blkL h s e l)), []) else none
  | _, _ => none
/-- A caller that hands on. -/
def cQ (c : Caller) : CallerK := fun f args σ _ K => (c f args σ).bind fun p => K p.1 p.2
/-- What is called by Digest. -/
def cD : Caller := fun f args σ => bif f == 38 then blkS args σ else none
def envG (s : ByteArray) (d : Int) : Env := [(0, .v (.str s)), (2, .v (.str ⟨#[]⟩)), (3, .ptr 0 0), (4, U64 d)]
noncomputable abbrev digB (c : Caller) (lp : Looper) : Env → Sto → Option Out := fun env σ => evC MO (cQ c) lp (MO.hints 18) 0 (codeAt [1,1,1,1,0,0,0] (bodyO 18)) env σ (stop [0, 2, 3, 4])
end Go.Ab

/- What book.Digest computes, over the summary of book.block. -/
namespace Go.Ab
open Go
set_option maxRecDepth 100000
def nD (s : ByteArray) : Int := bif decide ((64 : Int) < (s.size : Int)) then 64 else (s.size : Int)
def dD (s : ByteArray) (d : Int) : Int := IntKind.u64.wrap (d + IntKind.u64.wrap (nD s))
def cK (r : Option (D × Sto)) : CallerK := cQ fun _ _ _ => r
def regOps : Code → Array Oper
  | .region _ ops _ => ops
  | _ => #[]
noncomputable def ops6 : Array Oper := regOps (codeAt [1,1,1,1,0,0,0,0,1,1,0] (bodyO 18))
theorem evOps_append (M : Mode) (c : CallerK) {R : Type} (ops : Array Oper) : ∀ (l l' : List Oper) (env : Env) (σ : Sto) (fs : List Foot) (K : Env → Sto → List Foot → Option R),
    evOps M c ops (l ++ l') env σ fs K = evOps M c ops l env σ fs fun env σ fs => evOps M c ops l' env σ fs K
  | [], l', env, σ, fs, K => rfl
  | o :: l, l', env, σ, fs, K => by
    rw [List.cons_append]
    unfold evOps
    cases o.guard with
    | none => simp only [evOps_append M c ops l l']
    | some g => simp only [evOps_append M c ops l l']
abbrev hB (l : List Int) : Sto := [.box 82 (List.map I32 l)]
def argB (s : ByteArray) (d : Int) (h : List Int) : List D := [.agg (List.map I32 h), .v (.str (s.extract 0 (nD s).toNat)), U64 (dD s d), .v (.bool (nD s == (s.size : Int)))]
def env5 (s : ByteArray) (d : Int) : Env := [(4, U64 (dD s d)), (20, U64 (dD s d)), (19, U64 (IntKind.u64.wrap (nD s))), (18, I64 (nD s)), (17, U64 d), (5, I64 (nD s)), (16, I64 (nD s)), (15, I64 s.size), (14, .v (.str s))] ++ envG s d
def env6 (s : ByteArray) (d : Int) (h : List Int) : Env := [(29, .v (.bool (nD s == (s.size : Int)))), (28, I64 s.size), (27, .v (.str s)), (26, I64 (nD s)), (25, U64 (dD s d)), (24, .v (.str (s.extract 0 (nD s).toNat))), (23, I64 (nD s)), (22, .v (.str s)), (21, .agg (List.map I32 h))] ++ env5 s d
def fs6 : List Foot := [[(0, false)], [], [], [], [], [], [], [], []]
noncomputable def kBody : Ex → Env → Sto → Option Out := fun e env σ => inBlock 1 e fun e => stop [0, 2, 3, 4] e env σ
noncomputable def kReg (c : Caller) (lp : Looper) : Env → Sto → List Foot → Option Out := fun env σ fs => MO.fs σ fun σ =>
  bif true then (bif quiet (Region.before ops6) (loud fs) then onEx .normal (evC MO (cQ c) lp (MO.hints 18) 0 (codeAt [1,1,1,1,0,0,0,0,1,1,1] (bodyO 18)) env σ kBody) (fun e => kBody e env σ) else none) else none
noncomputable def ops4 : Array Oper := regOps (codeAt [1,1,1,1,0,0,0,0,0] (bodyO 18))
noncomputable def ops5 : Array Oper := regOps (codeAt [1,1,1,1,0,0,0,0,1,0] (bodyO 18))
noncomputable def rest7 : Code := codeAt [1,1,1,1,0,0,0,0,1,1,1] (bodyO 18)
theorem q0 : codeAt [1,1,1,1,0,0,0] (bodyO 18) = .block 1 (.seq (.region 4 ops4 false) (.seq (.region 5 ops5 false) (.seq (.region 6 ops6 true) rest7))) := by kernel_rfl
theorem hk4 : MO.hints 18 (3 * 4) = none := by kernel_rfl
theorem hk5 : MO.hints 18 (3 * 5) = none := by kernel_rfl
theorem hk6 : MO.hints 18 (3 * 6) = none := by kernel_rfl
theorem hkb1 : MO.hints 18 (300000 + 3 * 1) = none := by kernel_rfl
def env4 (s : ByteArray) (d : Int) : Env := [(5, I64 (nD s)), (16, I64 (nD s)), (15, I64 s.size), (14, .v (.str s))] ++ envG s d
theorem r4 (c : Caller) (s : ByteArray) (d : Int) (σ : Sto) (K : Env → Sto → Option Out) : evRegion MO (cQ c) ops4 false (envG s d) σ K = K (env4 s d) σ := by kernel_rfl
theorem r5 (c : Caller) (s : ByteArray) (d : Int) (σ : Sto) (K : Env → Sto → Option Out) : evRegion MO (cQ c) ops5 false (env4 s d) σ K = K (env5 s d) σ := by kernel_rfl
theorem p1 (c : Caller) (lp : Looper) (s : ByteArray) (d h0 h1 h2 h3 h4 h5 h6 h7 : Int) : digB c lp (envG s d) (hB [h0, h1, h2, h3, h4, h5, h6, h7]) = evOps MO (cQ c) ops6 ops6.toList (env5 s d) (hB [h0, h1, h2, h3, h4, h5, h6, h7]) [] (kReg c lp) := by
  show evC MO (cQ c) lp (MO.hints 18) 0 (codeAt [1,1,1,1,0,0,0] (bodyO 18)) _ _ _ = _
  rw [q0]
  simp only [evC, hkb1, hk4, hk5, hk6, r4, r5, onEx]
  rfl
theorem p2 (c : Caller) (s : ByteArray) (d h0 h1 h2 h3 h4 h5 h6 h7 : Int) (K : Env → Sto → List Foot → Option Out) : evOps MO (cQ c) ops6 (ops6.toList.take 9) (env5 s d) (hB [h0, h1, h2, h3, h4, h5, h6, h7]) [] K =
    bif decide (0 ≤ nD s) then bif decide (0 ≤ (nD s).toNat) && decide ((nD s).toNat ≤ s.size) then K (env6 s d [h0, h1, h2, h3, h4, h5, h6, h7]) (hB [h0, h1, h2, h3, h4, h5, h6, h7]) fs6 else none else none := by kernel_rfl
theorem p3 (c : Caller) (s : ByteArray) (d h0 h1 h2 h3 h4 h5 h6 h7 : Int) (K : Env → Sto → List Foot → Option Out) : evOps MO (cQ c) ops6 (ops6.toList.drop 9) (env6 s d [h0, h1, h2, h3, h4, h5, h6, h7]) (hB [h0, h1, h2, h3, h4, h5, h6, h7]) fs6 K =
    evOps MO (cK (c 38 (argB s d [h0, h1, h2, h3, h4, h5, h6, h7]) [])) ops6 (ops6.toList.drop 9) (env6 s d [h0, h1, h2, h3, h4, h5, h6, h7]) (hB [h0, h1, h2, h3, h4, h5, h6, h7]) fs6 K := by kernel_rfl
theorem p4 (s : ByteArray) (d h0 h1 h2 h3 h4 h5 h6 h7 b0 b1 b2 b3 b4 b5 b6 b7 : Int) (K : Env → Sto → List Foot → Option Out) : evOps MO (cK (some (.agg (List.map I32 [b0, b1, b2, b3, b4, b5, b6, b7]), []))) ops6 (ops6.toList.drop 9) (env6 s d [h0, h1, h2, h3, h4, h5, h6, h7]) (hB [h0, h1, h2, h3, h4, h5, h6, h7]) fs6 K =
    K ((30, .agg (List.map I32 [b0, b1, b2, b3, b4, b5, b6, b7])) :: env6 s d [h0, h1, h2, h3, h4, h5, h6, h7]) (hB [b0, b1, b2, b3, b4, b5, b6, b7]) (fs6 ++ [[], [(0, true)]]) := by kernel_rfl
theorem p5 (c : Caller) (lp : Looper) (s : ByteArray) (d h0 h1 h2 h3 h4 h5 h6 h7 b0 b1 b2 b3 b4 b5 b6 b7 : Int) : kReg c lp ((30, .agg (List.map I32 [b0, b1, b2, b3, b4, b5, b6, b7])) :: env6 s d [h0, h1, h2, h3, h4, h5, h6, h7]) (hB [b0, b1, b2, b3, b4, b5, b6, b7]) (fs6 ++ [[], [(0, true)]]) =
    bif decide (0 ≤ nD s) then bif decide ((nD s).toNat ≤ s.size) && decide (s.size ≤ s.size) then
        bif (s.extract (nD s).toNat s.size).toList == (⟨#[]⟩ : ByteArray).toList then
          some (.exit 0, envG (s.extract (nD s).toNat s.size) (dD s d), hB [b0, b1, b2, b3, b4, b5, b6, b7])
        else some (.normal, envG (s.extract (nD s).toNat s.size) (dD s d), hB [b0, b1, b2, b3, b4, b5, b6, b7])
      else none else none := by kernel_rfl
end Go.Ab

/- What book.Digest computes, joined. -/
namespace Go.Ab
open Go
set_option maxRecDepth 100000
theorem nD_eq (s : ByteArray) : nD s = ((min 64 s.size : Nat) : Int) := by
  unfold nD
  rcases Nat.lt_or_ge 64 s.size with h | h
  · have h1 : decide ((64 : Int) < (s.size : Int)) = true := by simp; omega
    rw [h1, cond_true, Nat.min_eq_left (by omega)]
    rfl
  · have h1 : decide ((64 : Int) < (s.size : Int)) = false := by simp; omega
    rw [h1, cond_false, Nat.min_eq_right h]
/-- A block of a text. -/
def blkAt (s : ByteArray) (d : Int) (h : List Int) : List Int := blkL h (s.extract 0 (nD s).toNat) (dD s d) (nD s == (s.size : Int))
def endS : ByteArray → Bool := fun s => decide (s.size ≤ 64)
theorem digStep (c : Caller) (lp : Looper) (s : ByteArray) (d : Int) {h b : List Int} (hh : h.length = 8) (hb : b.length = 8) (hc : c 38 (argB s d h) [] = some (.agg (List.map I32 b), [])) :
    digB c lp (envG s d) (hB h) = some (bif endS s then .exit 0 else .normal, envG (s.extract (nD s).toNat s.size) (dD s d), hB b) := by
  obtain ⟨h0, h1, h2, h3, h4, h5, h6, h7, rfl⟩ := len8 hh
  obtain ⟨b0, b1, b2, b3, b4, b5, b6, b7, rfl⟩ := len8 hb
  have hn0 : decide (0 ≤ nD s) = true := by rw [nD_eq]; simp
  have hn1 : (nD s).toNat = min 64 s.size := by rw [nD_eq]; simp
  rw [p1]
  have happ : ops6.toList = ops6.toList.take 9 ++ ops6.toList.drop 9 := (List.take_append_drop 9 _).symm
  rw [happ, evOps_append, p2, hn0, cond_true]
  have hn2 : (decide (0 ≤ (nD s).toNat) && decide ((nD s).toNat ≤ s.size)) = true := by rw [hn1]; simp; omega
  rw [hn2, cond_true, p3, hc, p4, p5, hn0, cond_true]
  have hn3 : (decide ((nD s).toNat ≤ s.size) && decide (s.size ≤ s.size)) = true := by rw [hn1]; simp; omega
  rw [hn3, cond_true]
  have hsz : (s.extract (nD s).toNat s.size).toList.length = s.size - min 64 s.size := by
    rw [Lib.toList_data]
    have : (s.extract (nD s).toNat s.size).data.size = (s.extract (nD s).toNat s.size).size := rfl
    rw [Array.length_toList, this, ByteArray.size_extract, hn1, Nat.min_self]
  have he : ((s.extract (nD s).toNat s.size).toList == (⟨#[]⟩ : ByteArray).toList) = endS s := by
    have e0 : (⟨#[]⟩ : ByteArray).toList = [] := by rw [Lib.toList_data]
    rw [e0]
    unfold endS
    rcases Nat.lt_or_ge 64 s.size with h | h
    · have : (s.extract (nD s).toNat s.size).toList ≠ [] := fun e => by rw [e] at hsz; simp at hsz; omega
      have h2 : decide (s.size ≤ 64) = false := by simp; omega
      rw [h2]
      simpa using this
    · have : (s.extract (nD s).toNat s.size).toList = [] := List.length_eq_zero_iff.1 (by rw [hsz]; omega)
      rw [this]
      simp [h]
  rw [he]
  cases endS s <;> rfl

/-- The rounds over a text's blocks. -/
def digGo : Nat → ByteArray → Int → List Int → List Int
  | 0, _, _, h => h
  | n + 1, s, d, h => bif endS s then blkAt s d h else digGo n (s.extract (nD s).toNat s.size) (dD s d) (blkAt s d h)
theorem blkAt_len (s : ByteArray) (d : Int) (h : List Int) : (blkAt s d h).length = 8 := endL_len _ _
theorem digGo_len : ∀ (n : Nat) (s : ByteArray) (d : Int) (h : List Int), h.length = 8 → (digGo n s d h).length = 8
  | 0, _, _, _, hh => hh
  | n + 1, s, d, h, hh => by
    unfold digGo
    cases endS s
    · exact digGo_len n _ _ _ (blkAt_len _ _ _)
    · exact blkAt_len _ _ _

theorem digGo_last (n : Nat) (s : ByteArray) (d : Int) (h : List Int) (he : endS s = true) : digGo (n + 1) s d h = blkAt s d h := by
  unfold digGo
  rw [he]
  rfl
theorem digGo_more (n : Nat) (s : ByteArray) (d : Int) (h : List Int) (he : endS s = false) : digGo (n + 1) s d h = digGo n (s.extract (nD s).toNat s.size) (dD s d) (blkAt s d h) := by
  conv => lhs; unfold digGo
  rw [he]
  rfl
theorem loopN_stop {k : Nat} {body : Env → Sto → Option Out} {n : Nat} {E E' E2 : Env} {σ σ' σ2 : Sto} {e : Ex} (h1 : head k E σ = some (E', σ')) (h2 : body E' σ' = some (e, E2, σ2)) (h3 : e ≠ .normal) : loopN k body (n + 1) E σ = some (e, E2, σ2) := by
  rw [loopN, h1, Option.bind_some, h2, Option.bind_some]
  cases e with
  | normal => exact absurd rfl h3
  | exit i => rfl
  | ret => rfl
theorem loopN_next {k : Nat} {body : Env → Sto → Option Out} {n : Nat} {E E' E2 : Env} {σ σ' σ2 : Sto} (h1 : head k E σ = some (E', σ')) (h2 : body E' σ' = some (.normal, E2, σ2)) : loopN k body (n + 1) E σ = loopN k body n E2 σ2 := by
  rw [loopN, h1, Option.bind_some, h2, Option.bind_some]
  rfl

theorem headG (s : ByteArray) (d h0 h1 h2 h3 h4 h5 h6 h7 : Int) : head 0 (envG s d) (hB [h0, h1, h2, h3, h4, h5, h6, h7]) = some (envG s d, hB [h0, h1, h2, h3, h4, h5, h6, h7]) := by kernel_rfl

/-- What block's caller gives. -/
theorem ints_map : ∀ l : List Int, ints (List.map I32 l) = some l
  | [] => rfl
  | n :: l => by
    show (ints (List.map I32 l)).bind (fun r => some (n :: r)) = _
    rw [ints_map l]
    rfl
theorem blkS_at (s : ByteArray) (d : Int) {h : List Int} (hh : h.length = 8) : blkS (argB s d h) [] = some (.agg (List.map I32 (blkAt s d h)), []) := by
  have hs : (s.extract 0 (nD s).toNat).size ≤ 64 := by
    rw [ByteArray.size_extract]
    have : (nD s).toNat = min 64 s.size := by rw [nD_eq]; simp
    omega
  unfold blkS argB
  simp only [ints_map, Option.bind_some, hh, hs, decide_true, beq_self_eq_true, Bool.and_self, cond_true]
  rfl

theorem digLoop (c : Caller) (hc : ∀ args, c 38 args [] = blkS args []) (lp : Looper) : ∀ (n : Nat) (s : ByteArray) (d : Int) (h : List Int), h.length = 8 → s.size ≤ 64 * n + 64 →
    ∃ s' d', loopN 0 (digB c lp) (n + 1) (envG s d) (hB h) = some (.exit 0, envG s' d', hB (digGo (n + 1) s d h))
  | 0, s, d, h, hh, hs => by
    have hst := digStep c lp s d hh (blkAt_len s d h) (by rw [hc]; exact blkS_at s d hh)
    have he : endS s = true := by unfold endS; simpa using hs
    have hd : head 0 (envG s d) (hB h) = some (envG s d, hB h) := by
      obtain ⟨h0, h1, h2, h3, h4, h5, h6, h7, rfl⟩ := len8 hh
      exact headG _ _ _ _ _ _ _ _ _ _
    refine ⟨s.extract (nD s).toNat s.size, dD s d, ?_⟩
    rw [he] at hst
    rw [digGo_last 0 s d h he]
    exact loopN_stop hd hst (by simp)
  | n + 1, s, d, h, hh, hs => by
    have hst := digStep c lp s d hh (blkAt_len s d h) (by rw [hc]; exact blkS_at s d hh)
    have hd : head 0 (envG s d) (hB h) = some (envG s d, hB h) := by
      obtain ⟨h0, h1, h2, h3, h4, h5, h6, h7, rfl⟩ := len8 hh
      exact headG _ _ _ _ _ _ _ _ _ _
    cases he : endS s with
    | true =>
      refine ⟨s.extract (nD s).toNat s.size, dD s d, ?_⟩
      rw [he] at hst
      rw [digGo_last (n + 1) s d h he]
      exact loopN_stop hd hst (by simp)
    | false =>
      have hsz : (s.extract (nD s).toNat s.size).size ≤ 64 * n + 64 := by
        rw [ByteArray.size_extract]
        have : (nD s).toNat = min 64 s.size := by rw [nD_eq]; simp
        have : ¬ s.size ≤ 64 := by unfold endS at he; simpa using he
        omega
      obtain ⟨s', d', ih⟩ := digLoop c hc lp n (s.extract (nD s).toNat s.size) (dD s d) (blkAt s d h) (blkAt_len _ _ _) hsz
      refine ⟨s', d', ?_⟩
      rw [he] at hst
      rw [digGo_more (n + 1) s d h he, loopN_next hd hst]
      exact ih

def wB (w : Int) : List UInt8 := [UInt8.ofNat (IntKind.u8.wrap w).toNat, UInt8.ofNat (IntKind.u8.wrap (w.fdiv (2 ^ min 8 IntKind.u32.bits))).toNat, UInt8.ofNat (IntKind.u8.wrap (w.fdiv (2 ^ min 16 IntKind.u32.bits))).toNat, UInt8.ofNat (IntKind.u8.wrap (w.fdiv (2 ^ min 24 IntKind.u32.bits))).toNat]
def h0L : List Int := xor32 0x6a09e667 16842784 :: (firstN.tail.map Int.ofNat)
noncomputable abbrev contG (c : Caller) (lp : Looper) (o : Out) : Option (D × Sto) :=
  inBlock 0 o.1 fun e => onEx e (evC MO (cQ c) lp (MO.hints 18) 0 (codeAt [1,1,1,1,1] (bodyO 18)) o.2.1 o.2.2 (finK 18 0)) fun e => finK 18 0 e o.2.1 o.2.2
theorem g1 (c : Caller) (lp : Looper) (s : ByteArray) : evBody MO (cQ c) lp 18 [.v (.str s)] [] = (lp 4 0 (digB c lp) (envG s 0) (hB h0L)).bind (contG c lp) := by kernel_rfl
theorem g2 (c : Caller) (n : Nat) (s : ByteArray) (d h0 h1 h2 h3 h4 h5 h6 h7 : Int) : contG c (fun _ k body => loopN k body (n + 9)) (.exit 0, envG s d, hB [h0, h1, h2, h3, h4, h5, h6, h7]) =
    some (.v (.str ⟨⟨([h0, h1, h2, h3, h4, h5, h6, h7].map wB).flatten⟩⟩), []) := by kernel_rfl
/-- The digest of a text. -/
def digestB (s : ByteArray) : ByteArray := ⟨⟨((digGo (s.size / 64 + 1) s 0 h0L).map wB).flatten⟩⟩
theorem digGo_fuel : ∀ (n m : Nat) (s : ByteArray) (d : Int) (h : List Int), s.size ≤ 64 * n + 64 → s.size ≤ 64 * m + 64 → digGo (n + 1) s d h = digGo (m + 1) s d h := by
  intro n
  induction n with
  | zero =>
    intro m s d h hn hm
    have he : endS s = true := by unfold endS; simpa using hn
    rw [digGo_last 0 s d h he, digGo_last m s d h he]
  | succ n ih =>
    intro m s d h hn hm
    cases he : endS s with
    | true => rw [digGo_last _ s d h he, digGo_last m s d h he]
    | false =>
      have h64 : ¬ s.size ≤ 64 := by unfold endS at he; simpa using he
      have h1 : (nD s).toNat = min 64 s.size := by rw [nD_eq]; simp
      have hsz : (s.extract (nD s).toNat s.size).size = s.size - 64 := by
        rw [ByteArray.size_extract, h1]; omega
      obtain ⟨m, rfl⟩ : ∃ k, m = k + 1 := ⟨m - 1, by omega⟩
      rw [digGo_more (n + 1) s d h he, digGo_more (m + 1) s d h he]
      exact ih m _ _ _ (by rw [hsz]; omega) (by rw [hsz]; omega)
theorem digest_ok (c : Caller) (hc : ∀ args, c 38 args [] = blkS args []) (s : ByteArray) : evBody MO (cQ c) (fun _ k body => loopN k body (s.size + 9)) 18 [.v (.str s)] [] = some (.v (.str (digestB s)), []) := by
  rw [g1]
  obtain ⟨s', d', hl⟩ := digLoop c hc (fun _ k body => loopN k body (s.size + 9)) (s.size + 8) s 0 h0L rfl (by omega)
  rw [show s.size + 9 = s.size + 8 + 1 from rfl] at *
  rw [hl, Option.bind_some]
  have hd : digGo (s.size + 8 + 1) s 0 h0L = digGo (s.size / 64 + 1) s 0 h0L := digGo_fuel _ _ s 0 h0L (by omega) (by omega)
  rw [hd]
  unfold digestB
  have hln := digGo_len (s.size / 64 + 1) s 0 h0L rfl
  generalize digGo (s.size / 64 + 1) s 0 h0L = L at hln
  obtain ⟨h0, h1, h2, h3, h4, h5, h6, h7, rfl⟩ := len8 hln
  exact g2 c s.size s' d' h0 h1 h2 h3 h4 h5 h6 h7
end Go.Ab

/- book.Digest, each word computed as it comes (for the kernel). -/
namespace Go.Ab
open Go
section
variable {R : Type}
def fInts : List Int → (List Int → R) → R
  | [], k => k []
  | a :: l, k => fInt a fun a => fInts l fun l => k (a :: l)
def fByte (b : UInt8) (k : UInt8 → R) : R := fNat b.toNat fun n => k (UInt8.ofNat n)
def fBytes : List UInt8 → (List UInt8 → R) → R
  | [], k => k []
  | b :: l, k => fByte b fun b => fBytes l fun l => k (b :: l)
theorem fNat_eq' (n : Nat) (k : Nat → R) : fNat n k = k n := by cases n <;> rfl
theorem fInt_eq' (n : Int) (k : Int → R) : fInt n k = k n := by cases n <;> simp only [fInt, fNat_eq']
theorem fInts_eq : ∀ (l : List Int) (k : List Int → R), fInts l k = k l
  | [], k => rfl
  | a :: l, k => by simp only [fInts, fInt_eq', fInts_eq l]
theorem fByte_eq (b : UInt8) (k : UInt8 → R) : fByte b k = k b := by simp only [fByte, fNat_eq']; congr 1; exact UInt8.ofNat_toNat
theorem fBytes_eq : ∀ (l : List UInt8) (k : List UInt8 → R), fBytes l k = k l
  | [], k => rfl
  | a :: l, k => by simp only [fBytes, fByte_eq, fBytes_eq l]

def mixF (at_ : List Nat) (x y : Int) (v : List Int) (k : List Int → R) : R :=
  fInt (v.getD (at_.getD 0 0) 0) fun a => fInt (v.getD (at_.getD 1 0) 0) fun b => fInt (v.getD (at_.getD 2 0) 0) fun c => fInt (v.getD (at_.getD 3 0) 0) fun d =>
  fInt (gA a b x) fun a1 => fInt (gD d a1 16) fun d1 => fInt (add32 c d1) fun c1 => fInt (gD b c1 12) fun b1 =>
  fInt (gA a1 b1 y) fun a2 => fInt (gD d1 a2 8) fun d2 => fInt (add32 c1 d2) fun c2 => fInt (gD b1 c2 7) fun b2 =>
  fInts ((((v.set (at_.getD 0 0) a2).set (at_.getD 1 0) b2).set (at_.getD 2 0) c2).set (at_.getD 3 0) d2) k
theorem mixF_eq (at_ : List Nat) (x y : Int) (v : List Int) (k : List Int → R) : mixF at_ x y v k = k (mixL at_ x y v) := by
  simp only [mixF, fInt_eq', fInts_eq]; rfl
def roundGoF (m : List Int) : List (List Nat) → List Nat → List Int → (List Int → R) → R
  | q :: qs, a :: b :: s, v, k => mixF q (m.getD a 0) (m.getD b 0) v fun v => roundGoF m qs s v k
  | _, _, v, k => k v
theorem roundGoF_eq (m : List Int) : ∀ (qs : List (List Nat)) (s : List Nat) (v : List Int) (k : List Int → R), roundGoF m qs s v k = k (roundGo m qs s v)
  | q :: qs, a :: b :: s, v, k => by simp only [roundGoF, roundGo, mixF_eq, roundGoF_eq m qs s]
  | [], s, v, k => by simp only [roundGoF, roundGo]
  | q :: qs, [], v, k => by simp only [roundGoF, roundGo]
  | q :: qs, [a], v, k => by simp only [roundGoF, roundGo]
def roundF (m : List Int) (r : Nat) (v : List Int) (k : List Int → R) : R := roundGoF m quartersN (orderN.getD r []) v k
theorem roundF_eq (m : List Int) (r : Nat) (v : List Int) (k : List Int → R) : roundF m r v k = k (roundL m r v) := roundGoF_eq _ _ _ _ _
def mGoF : List UInt8 → Nat → List Int → (List Int → R) → R
  | [], _, m, k => k m
  | b :: bs, i, m, k => fInts (putByte i b m) fun m => fNat (i + 1) fun i => mGoF bs i m k
theorem mGoF_eq : ∀ (bs : List UInt8) (i : Nat) (m : List Int) (k : List Int → R), mGoF bs i m k = k (mGo bs i m)
  | [], _, m, k => rfl
  | b :: bs, i, m, k => by simp only [mGoF, mGo, fInts_eq, fNat_eq', mGoF_eq bs]
def blkF (h : List Int) (l : List UInt8) (e : Int) (t : Bool) (k : List Int → R) : R :=
  mGoF l 0 (List.replicate 16 0) fun m => fInts (vOf h e t) fun v =>
  roundF m 0 v fun v => roundF m 1 v fun v => roundF m 2 v fun v => roundF m 3 v fun v => roundF m 4 v fun v => roundF m 5 v fun v => roundF m 6 v fun v => roundF m 7 v fun v => roundF m 8 v fun v => roundF m 9 v fun v =>
  fInts (endL h v) k
theorem blkF_eq (h : List Int) (s : ByteArray) (e : Int) (t : Bool) (k : List Int → R) : blkF h s.toList e t k = k (blkL h s e t) := by
  simp only [blkF, mGoF_eq, fInts_eq, roundF_eq, blkL, rounds]
/-- On lists. -/
def digF : Nat → List UInt8 → Int → List Int → (List Int → R) → R
  | 0, _, _, h, k => k h
  | n + 1, l, d, h, k => fInt (IntKind.u64.wrap (d + ((l.take 64).length : Nat))) fun d => blkF h (l.take 64) d (Nat.ble l.length 64) fun h => bif Nat.ble l.length 64 then k h else fBytes (l.drop 64) fun l => digF n l d h k
def digestF (l : List UInt8) (k : List UInt8 → R) : R := digF (l.length / 64 + 1) l 0 h0L fun h => fBytes (h.map wB).flatten k
end
end Go.Ab
