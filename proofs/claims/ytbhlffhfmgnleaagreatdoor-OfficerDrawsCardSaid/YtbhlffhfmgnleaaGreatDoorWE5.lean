/- The reference's Sample: the loops that look at the IDs, and the loop that marks one. -/
import Derived.Test.YtbhlffhfmgnleaaGreatDoorWE4
set_option linter.all false
namespace Go.Ab
open Go Go.Proofs
set_option maxRecDepth 100000
theorem lenP (z : Int) : decide (1 ≤ (iC z).length) = true := rfl
theorem decP (z : Int) : decE ((iC z).take 1) = some z := rfl
theorem lenQ (b : Bool) : decide (1 ≤ (bC b).length) = true := rfl
theorem decQ (b : Bool) : decB ((bC b).take 1) = some b := rfl
def goodId (z : Int) : Bool := decide (z ≥ 1) && decide (z ≤ 1073741824)
theorem rloop4 (s : ByteArray) (t : Tag) (zs : List Int) (n : Int) (hl : zs.length ≤ 1000) :
    (zs.all goodId = true ∧ ∃ i : Int, lpC 4 0 (lb MB c13 lpC 13 0 4) (eR4 s t zs n 0) [] = some (.exit 0, eR4 s t zs n i, [])) ∨
    (zs.all goodId = false ∧ ∃ i : Int, lpC 4 0 (lb MB c13 lpC 13 0 4) (eR4 s t zs n 0) [] = some (.ret, eR4x s t zs n i, [])) := by
  have h := lpC_scan (id := 4) (k := 0) (body := lb MB c13 lpC 13 0 4) zs goodId (fun i => eR4 s t zs n (i : Nat)) (fun i => eR4x s t zs n (i : Nat)) [] (e := .exit 0) (e2 := .ret) (Ee := eR4 s t zs n (zs.length : Nat))
    (fun i _ => rh4 s t zs n _) (fun i x hx hpx => by
      obtain ⟨hi, _⟩ := List.getElem?_eq_some_iff.1 hx
      have w2 : IntKind.i64.wrap ((i : Int) + 1) = ((i + 1 : Nat) : Int) := by rw [wrap_i64 (by omega) (by omega)]; omega
      have g1 : (zs.map iC)[((i : Nat) : Int).toNat]? = some (iC x) := by rw [Int.toNat_natCast, List.getElem?_map, hx]; rfl
      have d1 : decide (((i : Nat) : Int) < Int.ofNat (zs.map iC).length) = true := decide_eq_true (by show (i : Int) < ((zs.map iC).length : Int); rw [List.length_map]; omega)
      have d2 : decide ((0 : Int) ≤ (i : Nat)) = true := decide_eq_true (by omega)
      unfold goodId at hpx
      simp only [Bool.and_eq_true] at hpx
      rw [rb4, w2, d1, d2, g1]
      simp only [cond_true, Option.bind_some, lenP, decP, hpx.1, hpx.2, Bool.not_true, cond_false])
    (fun i x hx hpx => by
      obtain ⟨hi, _⟩ := List.getElem?_eq_some_iff.1 hx
      have g1 : (zs.map iC)[((i : Nat) : Int).toNat]? = some (iC x) := by rw [Int.toNat_natCast, List.getElem?_map, hx]; rfl
      have d1 : decide (((i : Nat) : Int) < Int.ofNat (zs.map iC).length) = true := decide_eq_true (by show (i : Int) < ((zs.map iC).length : Int); rw [List.length_map]; omega)
      have d2 : decide ((0 : Int) ≤ (i : Nat)) = true := decide_eq_true (by omega)
      unfold goodId at hpx
      rw [rb4, d1, d2, g1]
      simp only [cond_true, Option.bind_some, lenP, decP]
      cases c1 : decide (x ≥ 1) with
      | false => simp only [cond_false]
      | true =>
        rw [c1, Bool.true_and] at hpx
        simp only [cond_true, hpx, Bool.not_false])
    (by
      rw [rb4, decide_eq_false]
      · rfl
      · show ¬ ((zs.length : Nat) : Int) < ((zs.map iC).length : Int)
        rw [List.length_map]
        omega) (by simp) (by simp)
  rcases h with ⟨h1, h2⟩ | ⟨h0, i, x, _, _, _, h4⟩
  · exact .inl ⟨h1, _, h2⟩
  · exact .inr ⟨h0, _, h4⟩
theorem rloop9 (s : ByteArray) (t : Tag) (zs : List Int) (n : Int) (hl : zs.length ≤ 1000) :
    (ascB zs = true ∧ ∃ i : Int, lpC 9 0 (lb MB c13 lpC 13 0 9) (eR9 s t zs n 1) [] = some (.exit 2, eR9 s t zs n i, [])) ∨
    (ascB zs = false ∧ ∃ i : Int, lpC 9 0 (lb MB c13 lpC 13 0 9) (eR9 s t zs n 1) [] = some (.ret, eR9x s t zs n i, [])) := by
  have h := lpC_scan (id := 9) (k := 0) (body := lb MB c13 lpC 13 0 9) (prs zs) (fun q => !decide (q.1 ≤ q.2)) (fun i => eR9 s t zs n ((i + 1 : Nat) : Int)) (fun i => eR9x s t zs n ((i + 1 : Nat) : Int)) [] (e := .exit 2) (e2 := .ret) (Ee := eR9 s t zs n (((prs zs).length + 1 : Nat) : Int))
    (fun i _ => rh9 s t zs n _) (fun i q hq hpx => by
      obtain ⟨x, y⟩ := q
      unfold prs at hq
      obtain ⟨hx, hy⟩ := List.getElem?_zip_eq_some.1 hq
      rw [List.getElem?_drop, Nat.add_comm] at hx
      obtain ⟨hi, hxe⟩ := List.getElem?_eq_some_iff.1 hx
      have w1 : IntKind.i64.wrap (((i + 1 : Nat) : Int) - 1) = (i : Int) := by rw [wrap_i64 (by omega) (by omega)]; omega
      have w2 : IntKind.i64.wrap (((i + 1 : Nat) : Int) + 1) = ((i + 1 + 1 : Nat) : Int) := by rw [wrap_i64 (by omega) (by omega)]; omega
      rw [rb9, w1, w2]
      simp only [Bool.not_eq_true', decide_eq_false_iff_not] at hpx
      have d1 : decide (((i + 1 : Nat) : Int) < Int.ofNat (zs.map iC).length) = true := decide_eq_true (by show ((i + 1 : Nat) : Int) < ((zs.map iC).length : Int); rw [List.length_map]; omega)
      have d2 : decide ((0 : Int) ≤ ((i + 1 : Nat) : Int)) = true := decide_eq_true (by omega)
      have d3 : decide ((0 : Int) ≤ (i : Int)) = true := decide_eq_true (by omega)
      have g1 : (zs.map iC)[(((i + 1 : Nat) : Int)).toNat]? = some (iC x) := by rw [Int.toNat_natCast, List.getElem?_map, hx]; rfl
      have g2 : (zs.map iC)[((i : Int)).toNat]? = some (iC y) := by rw [Int.toNat_natCast, List.getElem?_map, hy]; rfl
      rw [d1, d2, d3, g1, g2]
      simp only [cond_true, Option.bind_some, lenP, decP, decide_eq_false hpx, cond_false])
    (fun i q hq hpx => by
      obtain ⟨x, y⟩ := q
      unfold prs at hq
      obtain ⟨hx, hy⟩ := List.getElem?_zip_eq_some.1 hq
      rw [List.getElem?_drop, Nat.add_comm] at hx
      obtain ⟨hi, hxe⟩ := List.getElem?_eq_some_iff.1 hx
      have w1 : IntKind.i64.wrap (((i + 1 : Nat) : Int) - 1) = (i : Int) := by rw [wrap_i64 (by omega) (by omega)]; omega
      rw [rb9, w1]
      simp only [Bool.not_eq_false', decide_eq_true_eq] at hpx
      have d1 : decide (((i + 1 : Nat) : Int) < Int.ofNat (zs.map iC).length) = true := decide_eq_true (by show ((i + 1 : Nat) : Int) < ((zs.map iC).length : Int); rw [List.length_map]; omega)
      have d2 : decide ((0 : Int) ≤ ((i + 1 : Nat) : Int)) = true := decide_eq_true (by omega)
      have d3 : decide ((0 : Int) ≤ (i : Int)) = true := decide_eq_true (by omega)
      have g1 : (zs.map iC)[(((i + 1 : Nat) : Int)).toNat]? = some (iC x) := by rw [Int.toNat_natCast, List.getElem?_map, hx]; rfl
      have g2 : (zs.map iC)[((i : Int)).toNat]? = some (iC y) := by rw [Int.toNat_natCast, List.getElem?_map, hy]; rfl
      rw [d1, d2, d3, g1, g2]
      simp only [cond_true, Option.bind_some, lenP, decP, decide_eq_true hpx])
    (by
      rw [rb9, decide_eq_false]
      · rfl
      · show ¬ (((prs zs).length + 1 : Nat) : Int) < ((zs.map iC).length : Int)
        rw [List.length_map, prs_len]
        omega) (by simp) (by simp)
  rcases h with ⟨h1, h2⟩ | ⟨h0, i, x, _, _, _, h4⟩
  · exact .inl ⟨h1, _, h2⟩
  · exact .inr ⟨h0, _, h4⟩

/-! ### Marking -/
/-- The marks: who is among those picked. -/
def mk (zs pk : List Int) : List Bool := zs.map fun z => decide (z ∈ pk)
def mkJ (zs pk : List Int) (x : Int) (j : Nat) : List Bool := mk (zs.take j) (pk ++ [x]) ++ mk (zs.drop j) pk
theorem mkJ_len (zs pk : List Int) (x : Int) (j : Nat) : (mkJ zs pk x j).length = zs.length := by
  unfold mkJ mk
  rw [List.length_append, List.length_map, List.length_map, List.length_take, List.length_drop]
  omega
theorem mkJ_zero (zs pk : List Int) (x : Int) : mkJ zs pk x 0 = mk zs pk := by unfold mkJ mk; simp
theorem mkJ_all (zs pk : List Int) (x : Int) : mkJ zs pk x zs.length = mk zs (pk ++ [x]) := by unfold mkJ mk; simp
theorem mkJ_get {zs pk : List Int} {x z : Int} {j : Nat} (hz : zs[j]? = some z) : (mkJ zs pk x j)[j]? = some (decide (z ∈ pk)) := by
  obtain ⟨hj, he⟩ := List.getElem?_eq_some_iff.1 hz
  unfold mkJ mk
  rw [List.getElem?_append_right (by rw [List.length_map, List.length_take]; omega), List.length_map, List.length_take, Nat.min_eq_left (by omega), Nat.sub_self, List.getElem?_map, List.getElem?_drop, Nat.add_zero, hz]
  rfl
theorem mkJ_set {zs pk : List Int} {x z : Int} {j : Nat} (hz : zs[j]? = some z) : (mkJ zs pk x j).set j (decide (z ∈ pk ++ [x])) = mkJ zs pk x (j + 1) := by
  obtain ⟨hj, he⟩ := List.getElem?_eq_some_iff.1 hz
  unfold mkJ mk
  have hl : ((zs.take j).map fun z => decide (z ∈ pk ++ [x])).length = j := by rw [List.length_map, List.length_take]; omega
  rw [List.set_append_right _ _ (by omega), hl, Nat.sub_self, List.drop_eq_getElem_cons hj, List.map_cons, List.set_cons_zero, List.take_add_one, hz]
  simp
theorem marks (s : ByteArray) (t : Tag) (zs ls pk : List Int) (x : Int) (n i : Int) (g m p : Nat) (hz : zs.length ≤ 1000) (hp : p < m) (hx : ls[p]? = some x) :
    lpC 24 0 (lb MB c13 lpC 13 0 24) (e24 s t zs n (.rs 0 g 1 0 m) (.rs 1 0 1 0 zs.length) i (p : Nat) 0) (sR18 g ls (mk zs pk)) =
      some (.exit 6, e24 s t zs n (.rs 0 g 1 0 m) (.rs 1 0 1 0 zs.length) i (p : Nat) (zs.length : Nat), sR18 g ls (mk zs (pk ++ [x]))) := by
  have he : lb MB c13 lpC 13 0 24 (e24 s t zs n (.rs 0 g 1 0 m) (.rs 1 0 1 0 zs.length) i (p : Nat) (zs.length : Nat)) (sR18 g ls (mkJ zs pk x zs.length)) =
      some (.exit 6, e24 s t zs n (.rs 0 g 1 0 m) (.rs 1 0 1 0 zs.length) i (p : Nat) (zs.length : Nat), sR18 g ls (mkJ zs pk x zs.length)) := by
    rw [rb24, decide_eq_false (by show ¬ ((zs.length : Nat) : Int) < ((zs.map iC).length : Int); rw [List.length_map]; omega), cond_false]
  have h := lpC_run (id := 24) (k := 0) (body := lb MB c13 lpC 13 0 24) (fun j => e24 s t zs n (.rs 0 g 1 0 m) (.rs 1 0 1 0 zs.length) i (p : Nat) (j : Nat)) (fun j => sR18 g ls (mkJ zs pk x j)) (m := zs.length) zs.length 0 (by omega)
    (fun j _ _ => rh24 _ _ _ _ _ _ _ _ _ _ _ _) (fun j _ hj => by
      have hzj : zs[j]? = some zs[j] := List.getElem?_eq_getElem hj
      generalize zs[j] = z at hzj
      have w2 : IntKind.i64.wrap ((j : Int) + 1) = ((j + 1 : Nat) : Int) := by rw [wrap_i64 (by omega) (by omega)]; omega
      have d1 : decide (((j : Nat) : Int) < Int.ofNat (zs.map iC).length) = true := decide_eq_true (by show (j : Int) < ((zs.map iC).length : Int); rw [List.length_map]; omega)
      have d2 : decide ((0 : Int) ≤ (j : Nat)) = true := decide_eq_true (by omega)
      have d3 : decide (j < zs.length) = true := decide_eq_true hj
      have d4 : decide ((0 : Int) ≤ (p : Nat)) = true := decide_eq_true (by omega)
      have d5 : decide (p < m) = true := decide_eq_true hp
      have g1 : ((mkJ zs pk x j).map bC)[0 + j]? = some (bC (decide (z ∈ pk))) := by rw [Nat.zero_add, List.getElem?_map, mkJ_get hzj]; rfl
      have g2 : (zs.map iC)[j]? = some (iC z) := by rw [List.getElem?_map, hzj]; rfl
      have g3 : (ls.map iC)[0 + p]? = some (iC x) := by rw [Nat.zero_add, List.getElem?_map, hx]; rfl
      have hs : ∀ b : Bool, b = decide (z ∈ pk ++ [x]) → ((mkJ zs pk x j).map bC).set (0 + j) (bC b) = (mkJ zs pk x (j + 1)).map bC := fun b hb => by
        rw [Nat.zero_add, ← mkJ_set hzj, hb, List.map_set]
      rw [rb24, w2, d1, d2, Int.toNat_natCast, d3, g1]
      simp only [cond_true, Option.bind_some, lenQ, decQ]
      cases hb : decide (z ∈ pk) with
      | true =>
        simp only [cond_true]
        have e : setRange (bC true) 0 [V.bool true] = bC true := rfl
        rw [e, hs true (by simp only [decide_eq_true_eq] at hb; simp [hb])]
      | false =>
        have e : setRange (bC false) 0 [V.bool (decide (z = x))] = bC (decide (z = x)) := rfl
        simp only [cond_false, g2, Option.bind_some, lenP, decP, cond_true, d4, Int.toNat_natCast, d5, decide_true, g3]
        rw [show decide (0 + (0 + 1) ≤ (bC false).length) = true from rfl, cond_true, e, hs _ (by simp only [decide_eq_false_iff_not] at hb; simp [hb])])
    he (by simp)
  rw [← mkJ_zero zs pk x, ← mkJ_all zs pk x]
  exact h
end Go.Ab

/- The reference's Sample: a round of picking. -/
namespace Go.Ab
open Go Go.Proofs
set_option maxRecDepth 100000
/-- Rounds with what holds at the head of each. -/
theorem lpC_inv {id k : Nat} {body : Env → Sto → Option Out} (P : Nat → Env → Sto → Prop) (Q : Out → Prop) (m : Nat)
    (hs : ∀ i E σ, i < m → P i E σ → ∃ E1 σ1 E' σ', head k E σ = some (E1, σ1) ∧ body E1 σ1 = some (.normal, E', σ') ∧ P (i + 1) E' σ')
    (he : ∀ E σ, P m E σ → ∃ E1 σ1 e E' σ', head k E σ = some (E1, σ1) ∧ body E1 σ1 = some (e, E', σ') ∧ e ≠ .normal ∧ Q (e, E', σ')) :
    ∀ (d i : Nat) (E : Env) (σ : Sto), i + d = m → P i E σ → ∃ o, lpC id k body E σ = some o ∧ Q o
  | 0, i, E, σ, hd, hP => by
    have : i = m := by omega
    subst this
    obtain ⟨E1, σ1, e, E', σ', h1, h2, h3, h4⟩ := he E σ hP
    exact ⟨_, lpC_exit h1 h2 h3, h4⟩
  | d + 1, i, E, σ, hd, hP => by
    obtain ⟨E1, σ1, E', σ', h1, h2, h3⟩ := hs i E σ (by omega) hP
    obtain ⟨o, k1, k2⟩ := lpC_inv P Q m hs he d (i + 1) E' σ' (by omega) h3
    exact ⟨o, lpC_step h1 h2 k1, k2⟩

theorem rdrop1 (s : ByteArray) (t : Tag) (zs : List Int) (x : Int) (cs : List Bool) (n j : Int) (i g k : Nat) (hi : i ≤ 1000) :
    contB MB c13 lpC 13 0 18 24 (.exit 6, e24 s t zs n (.rs 0 g 1 0 1) (.rs 1 0 1 0 k) i ((0 : Nat) : Int) j, sR18 g [x] cs) =
      some (.normal, e18 s t zs n (.sl .full 1 []) (.rs 1 0 1 0 k) ((i + 1 : Nat) : Int), sR18 g [x] cs) := by
  have w : IntKind.i64.wrap ((i : Int) + 1) = ((i + 1 : Nat) : Int) := by rw [wrap_i64 (by omega) (by omega)]; omega
  have h := rkA0 s t zs x cs n i j g k
  rw [w, decide_eq_true rfl] at h
  exact h
theorem rdropA (s : ByteArray) (t : Tag) (zs ls : List Int) (x y : Int) (cs : List Bool) (n j : Int) (i g k : Nat) (hi : i ≤ 1000) (hl : ls.length ≤ 1000) :
    contB MB c13 lpC 13 0 18 24 (.exit 6, e24 s t zs n (.rs 0 g 1 0 (ls.length + 2)) (.rs 1 0 1 0 k) i ((0 : Nat) : Int) j, sR18 g (x :: y :: ls) cs) =
      some (.normal, e18 s t zs n (.rs 2 0 1 0 (ls.length + 1)) (.rs 1 0 1 0 k) ((i + 1 : Nat) : Int), [.arr 1 g ((x :: y :: ls).map iC), .arr 1 0 (cs.map bC), .arr 1 0 ((y :: ls).map iC)]) := by
  have w : IntKind.i64.wrap ((i : Int) + 1) = ((i + 1 : Nat) : Int) := by rw [wrap_i64 (by omega) (by omega)]; omega
  have hW : window ([V.int IntKind.i64 x] :: [V.int IntKind.i64 y] :: List.map iC ls) 1 (ls.length + 2 - 1) = (y :: ls).map iC := by
    unfold window
    rw [List.drop_succ_cons, List.drop_zero, List.map_cons]
    exact List.take_of_length_le (by rw [List.length_cons, List.length_map]; omega)
  have h := rkA1 s t zs ls x y cs n i j g ls.length k
  have hn : 0 + (List.map iC (y :: ls)).length = ls.length + 1 := by rw [List.length_map, List.length_cons]; omega
  have hr : room 8 (ls.length + 1) = true := by unfold room; simp only [Bool.and_eq_true, decide_eq_true_eq]; omega
  rw [w, decide_eq_true (rfl : g = g), hW, hn, hr, decide_eq_true (show 1 ≤ ls.length + 2 by omega), decide_eq_true (show 0 + (ls.length + 2) ≤ (List.map iC ls).length + 1 + 1 by rw [List.length_map]; omega)] at h
  exact h
theorem rdropB (s : ByteArray) (t : Tag) (zs ls : List Int) (x : Int) (cs : List Bool) (n j : Int) (i g k p : Nat) (hi : i ≤ 1000) (hl : ls.length ≤ 1000) (hp : p < ls.length) :
    ∃ g', contB MB c13 lpC 13 0 18 24 (.exit 6, e24 s t zs n (.rs 0 g 1 0 (ls.length + 1)) (.rs 1 0 1 0 k) i ((p + 1 : Nat) : Int) j, sR18 g (x :: ls) cs) =
      some (.normal, e18 s t zs n (.rs 2 g' 1 0 ls.length) (.rs 1 0 1 0 k) ((i + 1 : Nat) : Int), [.arr 1 g ((x :: ls).map iC), .arr 1 0 (cs.map bC), .arr 1 g' (((x :: ls).eraseIdx (p + 1)).map iC)]) := by
  have w : IntKind.i64.wrap ((i : Int) + 1) = ((i + 1 : Nat) : Int) := by rw [wrap_i64 (by omega) (by omega)]; omega
  have w2 : IntKind.i64.wrap (Int.ofNat (p + 1) + 1) = ((p + 2 : Nat) : Int) := by
    rw [show Int.ofNat (p + 1) = ((p + 1 : Nat) : Int) from rfl, wrap_i64 (by omega) (by omega)]; omega
  have hA : window ([V.int IntKind.i64 x] :: List.map iC ls) 0 ((Int.ofNat (p + 1)).toNat - 0) = ((x :: ls).take (p + 1)).map iC := by
    unfold window
    rw [List.drop_zero, show (Int.ofNat (p + 1)).toNat - 0 = p + 1 from rfl, List.map_take]
    rfl
  have hB : window ([V.int IntKind.i64 x] :: List.map iC ls) (0 + ((p + 2 : Nat) : Int).toNat) (ls.length + 1 - ((p + 2 : Nat) : Int).toNat) = ((x :: ls).drop (p + 2)).map iC := by
    unfold window
    rw [Int.toNat_natCast, Nat.zero_add, List.map_drop]
    exact List.take_of_length_le (by rw [List.length_drop, List.length_cons, List.length_map]; omega)
  have h := rkB s t zs ls x cs n i j g (ls.length + 1) k p
  have lA : (List.map iC (List.take (p + 1) (x :: ls))).length = p + 1 := by rw [List.length_map, List.length_take, List.length_cons]; omega
  have lB : (List.map iC (List.drop (p + 2) (x :: ls))).length = ls.length - (p + 1) := by rw [List.length_map, List.length_drop, List.length_cons]; omega
  have r1 : room 8 (0 + (p + 1)) = true := by unfold room; simp only [Bool.and_eq_true, decide_eq_true_eq]; omega
  have r2 : room 8 (p + 1 + (ls.length - (p + 1))) = true := by unfold room; simp only [Bool.and_eq_true, decide_eq_true_eq]; omega
  have c0 : decide (0 ≤ (Int.ofNat (p + 1)).toNat) = true := decide_eq_true (by omega)
  have c1 : decide (0 + (Int.ofNat (p + 1)).toNat ≤ (List.map iC ls).length + 1) = true := decide_eq_true (by rw [List.length_map, show (Int.ofNat (p + 1)).toNat = p + 1 from rfl]; omega)
  have c2 : decide ((0 : Int) ≤ ((p + 2 : Nat) : Int)) = true := decide_eq_true (by omega)
  have c3 : decide (((p + 2 : Nat) : Int).toNat ≤ ls.length + 1) = true := decide_eq_true (by rw [Int.toNat_natCast]; omega)
  have c4 : decide (0 + (ls.length + 1) ≤ (List.map iC ls).length + 1) = true := decide_eq_true (by rw [List.length_map]; omega)
  have hn : 0 + (p + 1) + (ls.length - (p + 1)) = ls.length := by omega
  have hE : (x :: ls).eraseIdx (p + 1) = (x :: ls).take (p + 1) ++ (x :: ls).drop (p + 2) := List.eraseIdx_eq_take_drop_succ _ _
  rw [w, w2, decide_eq_true (rfl : g = g), hA, hB, lA, lB, r1, r2, c0, c1, c2, c3, c4, hn] at h
  simp only [Bool.and_self, cond_true] at h
  by_cases hlast : ls.length = p + 1
  · refine ⟨0, ?_⟩
    have hd : (x :: ls).drop (p + 2) = [] := List.drop_eq_nil_of_le (by rw [List.length_cons]; omega)
    rw [decide_eq_true (show 0 + (0 + (p + 1)) + (ls.length - (p + 1)) ≤ p + 1 by omega), cond_true, hd] at h
    rw [hE, hd, List.append_nil]
    exact h
  · refine ⟨1, ?_⟩
    rw [decide_eq_false (show ¬ 0 + (0 + (p + 1)) + (ls.length - (p + 1)) ≤ p + 1 by omega), cond_false, decide_eq_true (show 0 + (0 + (p + 1)) = p + 1 by omega), cond_true] at h
    rw [hE, List.map_append]
    exact h

theorem pR_eq (a b c d : UInt8) {m : Nat} (h0 : 0 < m) (h1 : m ≤ 1000000) : pR a b c d m = pickI a b c d m := by
  have ha := u8_lt a; have hb := u8_lt b; have hc := u8_lt c; have hd := u8_lt d
  have hl := leN_lt a b c d
  have w0 : ∀ x : UInt8, IntKind.i64.wrap (Int.ofNat x.toNat) = ((x.toNat : Nat) : Int) := fun x => by
    have := u8_lt x
    exact wrap_i64 (by show _ ≤ ((x.toNat : Nat) : Int); omega) (by show ((x.toNat : Nat) : Int) < _; omega)
  have p8 : (2 : Int) ^ min (Int.toNat 8) IntKind.i64.bits = 256 := by decide
  have p16 : (2 : Int) ^ min (Int.toNat 16) IntKind.i64.bits = 65536 := by decide
  have p24 : (2 : Int) ^ min (Int.toNat 24) IntKind.i64.bits = 16777216 := by decide
  unfold pR pickI
  have hw : IntKind.u32.wrap (Int.ofNat m) = (m : Int) := wrap_u32 (by show (0 : Int) ≤ (m : Int); omega) (by show (m : Int) < _; omega)
  have hm := Int.emod_nonneg (leN a b c d : Int) (b := (m : Int)) (by omega)
  have hm2 := Int.emod_lt_of_pos (leN a b c d : Int) (b := (m : Int)) (by omega)
  rw [hw, le32_sum, Int.tmod_eq_emod_of_nonneg (by omega : (0 : Int) ≤ (leN a b c d : Int)), wrap_i64 (x := (leN a b c d : Int) % (m : Int)) (by omega) (by omega)]
  rw [w0, w0, w0, w0, p8, p16, p24]
  rw [wrap_i64 (x := (b.toNat : Int) * 256) (by omega) (by omega), wrap_i64 (x := (c.toNat : Int) * 65536) (by omega) (by omega), wrap_i64 (x := (d.toNat : Int) * 16777216) (by omega) (by omega)]
  rw [wrap_i64 (x := (a.toNat : Int) + (b.toNat : Int) * 256) (by omega) (by omega)]
  rw [wrap_i64 (x := (a.toNat : Int) + (b.toNat : Int) * 256 + (c.toNat : Int) * 65536) (by omega) (by omega)]
  rw [wrap_i64 (x := (a.toNat : Int) + (b.toNat : Int) * 256 + (c.toNat : Int) * 65536 + (d.toNat : Int) * 16777216) (by omega) (by omega)]
  have hs : (a.toNat : Int) + (b.toNat : Int) * 256 + (c.toNat : Int) * 65536 + (d.toNat : Int) * 16777216 = (leN a b c d : Int) := by unfold leN; omega
  rw [hs, Int.tmod_eq_emod_of_nonneg (by omega)]
theorem pR_pick (s : ByteArray) (i : Nat) {m : Nat} (h0 : 0 < m) (h1 : m ≤ 1000000) : pR (dB s i 0) (dB s i 1) (dB s i 2) (dB s i 3) m = (fS s i m : Int) ∧ fS s i m < m := by
  rw [pR_eq _ _ _ _ h0 h1]
  exact fS_pick s i h0 h1
end Go.Ab

/- The reference's Sample: all its rounds of picking. -/
namespace Go.Ab
open Go Go.Proofs
set_option maxRecDepth 100000
/-- What holds at a round's head. -/
def atH (s : ByteArray) (t : Tag) (zs : List Int) (n : Int) (i : Nat) (E : Env) (σ : Sto) : Prop :=
  (i < zs.length ∧ ∃ g, head 0 E σ = some (e18 s t zs n (.rs 0 g 1 0 (zs.length - i)) (.rs 1 0 1 0 zs.length) (i : Nat), sR18 g (leftB (fP s) 0 zs i) (mk zs (picks (fP s) 0 zs i)))) ∨
  (i = zs.length ∧ head 0 E σ = some (e18 s t zs n (.sl .full 1 []) (.rs 0 0 1 0 zs.length) (i : Nat), [.arr 1 0 ((mk zs (picks (fP s) 0 zs i)).map bC)]))
theorem rround (s : ByteArray) (t : Tag) (zs : List Int) (n i g : Nat) (hz : zs.length ≤ 1000) (hn : n ≤ zs.length) (hi : i < n) (hs : s.size ≤ 1000) :
    ∃ E' σ', lb MB c13 lpC 13 0 18 (e18 s t zs (n : Nat) (.rs 0 g 1 0 (zs.length - i)) (.rs 1 0 1 0 zs.length) (i : Nat)) (sR18 g (leftB (fP s) 0 zs i) (mk zs (picks (fP s) 0 zs i))) = some (.normal, E', σ') ∧ atH s t zs (n : Nat) (i + 1) E' σ' := by
  have hL : (leftB (fP s) 0 zs i).length = zs.length - i := leftB_len (fP_in s) i 0 zs (by omega)
  obtain ⟨q1, q2⟩ := pR_pick s i (m := zs.length - i) (by omega) (by omega)
  have hf : fP s i (zs.length - i) = fS s i (zs.length - i) := by unfold fP; rw [if_pos (by omega)]
  have hp : picks (fP s) 0 zs (i + 1) = picks (fP s) 0 zs i ++ [(leftB (fP s) 0 zs i).getD (fS s i (zs.length - i)) 0] := by rw [picks_snoc, Nat.zero_add, hL, hf]
  have hl : leftB (fP s) 0 zs (i + 1) = (leftB (fP s) 0 zs i).eraseIdx (fS s i (zs.length - i)) := by rw [leftB_snoc, Nat.zero_add, hL, hf]
  have hx : (leftB (fP s) 0 zs i)[fS s i (zs.length - i)]? = some ((leftB (fP s) 0 zs i).getD (fS s i (zs.length - i)) 0) := by
    rw [List.getD_eq_getElem?_getD, List.getElem?_eq_getElem (by rw [hL]; exact q2)]
    rfl
  have hm := marks s t zs (leftB (fP s) 0 zs i) (picks (fP s) 0 zs i) _ (n : Nat) (i : Nat) g (zs.length - i) (fS s i (zs.length - i)) hz q2 hx
  have d0 : decide (((i : Nat) : Int) < (n : Nat)) = true := decide_eq_true (by omega)
  have d1 : decide (((zs.length - i : Nat) : Int) = 0) = false := decide_eq_false (by omega)
  have d2 : in18 (i : Nat) = true := by unfold in18; simp only [Bool.and_eq_true, decide_eq_true_eq]; omega
  have d3 : Nat.ble (seedT s (i : Nat)).size 1000000 = true := by
    refine Nat.ble_eq_true_of_le ?_
    unfold seedT
    show ((s ++ ⟨#[32]⟩) ++ itoaB (i : Nat)).size ≤ _
    rw [cat_size, cat_size]
    have := itoaB_size (i : Nat)
    have : (⟨#[32]⟩ : ByteArray).size = 1 := rfl
    omega
  rw [rb18, d0, cat1S hs, d2, cat2S hs i, d3, dB_get s i (by omega), dB_get s i (by omega), dB_get s i (by omega), dB_get s i (by omega)]
  simp only [cond_true, Option.bind_some, d1, cond_false]
  rw [q1, hm, Option.bind_some, ← hp]
  unfold atH
  rw [hl]
  generalize hLs : leftB (fP s) 0 zs i = L at hL
  generalize fS s i (zs.length - i) = p at q2
  rw [← hL] at q2 ⊢
  have w : zs.length - (i + 1) = L.length - 1 := by omega
  rw [w]
  match L, p, q2 with
  | [], p, q2 => simp at q2
  | [x], 0, _ =>
    have hi1 : i + 1 = zs.length := by simp only [List.length_cons, List.length_nil] at hL; omega
    refine ⟨_, _, rdrop1 s t zs x _ (n : Nat) (zs.length : Nat) i g zs.length (by omega), .inr ⟨hi1, ?_⟩⟩
    exact rh18nx s t zs [x] _ _ _ g zs.length
  | [x], p + 1, q2 => simp at q2
  | x :: y :: L, 0, _ =>
    simp only [List.length_cons] at hL
    refine ⟨_, _, rdropA s t zs L x y _ (n : Nat) (zs.length : Nat) i g zs.length (by omega) (by omega), .inl ⟨by omega, 0, ?_⟩⟩
    exact rh18x s t zs (x :: y :: L) (y :: L) _ _ _ g 0 (L.length + 1) zs.length
  | x :: y :: L, p + 1, q2 =>
    simp only [List.length_cons] at hL q2
    obtain ⟨g', hg⟩ := rdropB s t zs (y :: L) x (mk zs (picks (fP s) 0 zs (i + 1))) (n : Nat) (zs.length : Nat) i g zs.length p (by omega) (by simp only [List.length_cons]; omega) (by simp only [List.length_cons]; omega)
    refine ⟨_, _, hg, .inl ⟨by omega, g', ?_⟩⟩
    exact rh18x s t zs (x :: y :: L) _ _ _ _ g g' (y :: L).length zs.length
/-- What comes of all rounds: the store goes on to the last loop. -/
def Q18 (s : ByteArray) (t : Tag) (zs : List Int) (n : Nat) (o : Out) : Prop :=
  (∃ g, o = (.exit 4, e18 s t zs (n : Nat) (.rs 0 g 1 0 (zs.length - n)) (.rs 1 0 1 0 zs.length) (n : Nat), sR18 g (leftB (fP s) 0 zs n) (mk zs (picks (fP s) 0 zs n)))) ∨
  o = (.exit 4, e18 s t zs (n : Nat) (.sl .full 1 []) (.rs 0 0 1 0 zs.length) (n : Nat), [.arr 1 0 ((mk zs (picks (fP s) 0 zs n)).map bC)])
theorem rrounds18 (s : ByteArray) (t : Tag) (zs : List Int) (n : Nat) (hz : zs.length ≤ 1000) (hn : n ≤ zs.length) (hs : s.size ≤ 1000) (E : Env) (σ : Sto) (h0 : atH s t zs (n : Nat) 0 E σ) :
    ∃ o, lpC 18 0 (lb MB c13 lpC 13 0 18) E σ = some o ∧ Q18 s t zs n o := by
  refine lpC_inv (atH s t zs (n : Nat)) (Q18 s t zs n) n (fun i E σ hi hP => ?_) (fun E σ hP => ?_) n 0 E σ (by omega) h0
  · rcases hP with ⟨h1, g, h2⟩ | ⟨h1, h2⟩
    · obtain ⟨E', σ', k1, k2⟩ := rround s t zs n i g hz hn hi hs
      exact ⟨_, _, E', σ', h2, k1, k2⟩
    · omega
  · rcases hP with ⟨h1, g, h2⟩ | ⟨h1, h2⟩
    · refine ⟨_, _, _, _, _, h2, ?_, ?_, .inl ⟨g, rfl⟩⟩
      · rw [rb18, decide_eq_false (by omega), cond_false]
      · simp
    · refine ⟨_, _, _, _, _, h2, ?_, ?_, .inr rfl⟩
      · rw [rb18n, decide_eq_false (by omega), cond_false]
      · simp
end Go.Ab

/- The reference's Sample: what it answers. -/
namespace Go.Ab
open Go Go.Proofs
set_option maxRecDepth 100000
def oS (cs : List Bool) : List Int → Sto
  | [] => [.arr 1 0 (cs.map bC)]
  | x :: r => [.arr 1 0 (cs.map bC), .arr 1 r.length ((x :: r).map iC)]
abbrev oE (os : List Int) : D := oD15 os.length
theorem h30 (t : Tag) (zs os : List Int) (cs : List Bool) (k : Nat) (j : Int) : head 0 (e30 t zs (.rs 0 0 1 0 k) (oE os) j) (oS cs os) = some (e30 t zs (.rs 0 0 1 0 k) (oE os) j, oS cs os) := by
  cases os with
  | nil => exact rh30n t zs cs k j
  | cons x r => exact rh30r t zs (x :: r) cs k r.length (r.length + 1) j
def kept (zs pk : List Int) (j : Nat) : List Int := (zs.take j).filter fun z => decide (z ∈ pk)
theorem kept_step {zs pk : List Int} {z : Int} {j : Nat} (hz : zs[j]? = some z) : kept zs pk (j + 1) = if z ∈ pk then kept zs pk j ++ [z] else kept zs pk j := by
  unfold kept
  rw [List.take_add_one, hz, List.filter_append]
  by_cases h : z ∈ pk <;> simp [h]
theorem kept_len (zs pk : List Int) (j : Nat) : (kept zs pk j).length ≤ zs.length := by
  unfold kept
  refine Nat.le_trans (List.length_filter_le _ _) ?_
  rw [List.length_take]
  omega
theorem mk_get {zs pk : List Int} {z : Int} {j : Nat} (hz : zs[j]? = some z) : ((mk zs pk).map bC)[0 + j]? = some (bC (decide (z ∈ pk))) := by
  unfold mk
  rw [Nat.zero_add, List.getElem?_map, List.getElem?_map, hz]
  rfl
theorem step30 (t : Tag) (zs pk : List Int) (z : Int) (j : Nat) (hl : zs.length ≤ 1000) (hz : zs[j]? = some z) :
    lb MB c13 lpC 13 0 30 (e30 t zs (.rs 0 0 1 0 zs.length) (oE (kept zs pk j)) (j : Nat)) (oS (mk zs pk) (kept zs pk j)) =
      some (.normal, e30 t zs (.rs 0 0 1 0 zs.length) (oE (kept zs pk (j + 1))) ((j + 1 : Nat) : Int), oS (mk zs pk) (kept zs pk (j + 1))) := by
  obtain ⟨hj, _⟩ := List.getElem?_eq_some_iff.1 hz
  have w2 : IntKind.i64.wrap ((j : Int) + 1) = ((j + 1 : Nat) : Int) := by rw [wrap_i64 (by omega) (by omega)]; omega
  have d1 : decide (((j : Nat) : Int) < Int.ofNat (zs.map iC).length) = true := decide_eq_true (by show (j : Int) < ((zs.map iC).length : Int); rw [List.length_map]; omega)
  have d2 : decide ((0 : Int) ≤ (j : Nat)) = true := decide_eq_true (by omega)
  have d3 : decide (j < zs.length) = true := decide_eq_true hj
  have g1 := mk_get (pk := pk) hz
  have g2 : (zs.map iC)[j]? = some (iC z) := by rw [List.getElem?_map, hz]; rfl
  have hk := kept_step (pk := pk) hz
  have hlen := kept_len zs pk j
  generalize kept zs pk (j + 1) = os2 at hk
  generalize kept zs pk j = os at hk hlen
  subst hk
  cases os with
  | nil =>
    show lb MB c13 lpC 13 0 30 (e30 t zs (.rs 0 0 1 0 zs.length) (.v .nils) (j : Nat)) [.arr 1 0 ((mk zs pk).map bC)] = _
    rw [rb30n, w2, d1, d2, Int.toNat_natCast, d3, g1]
    simp only [cond_true, Option.bind_some, lenQ, decQ]
    by_cases hm : z ∈ pk
    · rw [decide_eq_true hm, cond_true, g2, if_pos hm]
      simp only [Option.bind_some, lenP, decP, cond_true]
      rfl
    · rw [decide_eq_false hm, cond_false, if_neg hm]
      rfl
  | cons x r =>
    show lb MB c13 lpC 13 0 30 (e30 t zs (.rs 0 0 1 0 zs.length) (.rs 1 r.length 1 0 (r.length + 1)) (j : Nat)) [.arr 1 0 ((mk zs pk).map bC), .arr 1 r.length ((x :: r).map iC)] = _
    have hr : room 8 ((List.map iC (x :: r)).length + (0 + 1)) = true := by
      rw [List.length_map]
      unfold room
      simp only [Bool.and_eq_true, decide_eq_true_eq]
      omega
    have c1 : decide (0 + (r.length + 1) + (0 + 1) ≤ (List.map iC (x :: r)).length) = false := decide_eq_false (by rw [List.length_map, List.length_cons]; omega)
    have c2 : decide (0 + (r.length + 1) = (List.map iC (x :: r)).length) = true := decide_eq_true (by rw [List.length_map, List.length_cons]; omega)
    rw [rb30r, w2, d1, d2, Int.toNat_natCast, d3, g1]
    simp only [cond_true, Option.bind_some, lenQ, decQ]
    by_cases hm : z ∈ pk
    · rw [decide_eq_true hm, cond_true, g2, if_pos hm]
      simp only [Option.bind_some, lenP, decP, cond_true, decide_true, hr, c1, c2, cond_false]
      have e1 : oE (x :: r ++ [z]) = .rs 1 (r.length + 1) 1 0 (r.length + 1 + 1) := by
        show oD15 ((x :: r ++ [z]).length) = _
        rw [List.length_append]
        rfl
      have e2 : oS (mk zs pk) (x :: r ++ [z]) = [.arr 1 0 ((mk zs pk).map bC), .arr 1 (r.length + 1) ((x :: r).map iC ++ [iC z])] := by
        show [Row.arr 1 0 ((mk zs pk).map bC), Row.arr 1 (r ++ [z]).length (List.map iC (x :: (r ++ [z])))] = _
        rw [List.length_append, List.map_cons, List.map_append]
        rfl
      rw [e1, e2]
      rfl
    · rw [decide_eq_false hm, cond_false, if_neg hm]
      rfl
def outR (os : List Int) : D × Sto :=
  match os.length with
  | 0 => (.tup [.v .nils, .v (.int .i64 0)], [])
  | k + 1 => (.tup [.rs 0 k 1 0 (k + 1), .v (.int .i64 0)], [.arr 1 k (os.map iC)])
theorem last30 (t : Tag) (zs pk : List Int) (hl : zs.length ≤ 1000) (E : Env) (σ : Sto) (h0 : head 0 E σ = some (e30 t zs (.rs 0 0 1 0 zs.length) (.v .nils) 0, [.arr 1 0 ((mk zs pk).map bC)])) :
    (lpC 30 0 (lb MB c13 lpC 13 0 30) E σ).bind (contF MB c13 lpC 13 0 30) = some (outR (zs.filter fun z => decide (z ∈ pk))) := by
  have hall : kept zs pk zs.length = zs.filter fun z => decide (z ∈ pk) := by unfold kept; rw [List.take_length]
  obtain ⟨o, h1, h2⟩ := lpC_inv (id := 30) (k := 0) (body := lb MB c13 lpC 13 0 30) (fun j E σ => head 0 E σ = some (e30 t zs (.rs 0 0 1 0 zs.length) (oE (kept zs pk j)) (j : Nat), oS (mk zs pk) (kept zs pk j)))
    (fun o => o = (.exit 8, e30 t zs (.rs 0 0 1 0 zs.length) (oE (kept zs pk zs.length)) (zs.length : Nat), oS (mk zs pk) (kept zs pk zs.length))) zs.length
    (fun j E σ hj hP => ⟨_, _, _, _, hP, step30 t zs pk zs[j] j hl (List.getElem?_eq_getElem hj), h30 t zs (kept zs pk (j + 1)) (mk zs pk) zs.length _⟩)
    (fun E σ hP => by
      refine ⟨_, _, _, _, _, hP, ?_, by simp, rfl⟩
      have hd : decide (((zs.length : Nat) : Int) < Int.ofNat (zs.map iC).length) = false := decide_eq_false (by show ¬ ((zs.length : Nat) : Int) < ((zs.map iC).length : Int); rw [List.length_map]; omega)
      generalize kept zs pk zs.length = os
      cases os with
      | nil =>
        show lb MB c13 lpC 13 0 30 (e30 t zs (.rs 0 0 1 0 zs.length) (.v .nils) (zs.length : Nat)) [.arr 1 0 ((mk zs pk).map bC)] = _
        rw [rb30n, hd, cond_false]
        rfl
      | cons x r =>
        show lb MB c13 lpC 13 0 30 (e30 t zs (.rs 0 0 1 0 zs.length) (.rs 1 r.length 1 0 (r.length + 1)) (zs.length : Nat)) [.arr 1 0 ((mk zs pk).map bC), .arr 1 r.length ((x :: r).map iC)] = _
        rw [rb30r, hd, cond_false]
        rfl)
    zs.length 0 E σ (by omega) h0
  rw [h1, Option.bind_some, h2, hall]
  generalize (zs.filter fun z => decide (z ∈ pk)) = os
  cases os with
  | nil => exact rk30n t zs (mk zs pk) zs.length _
  | cons x r => exact rk30r t zs (x :: r) (mk zs pk) zs.length r.length (r.length + 1) _
end Go.Ab

/- The reference's Sample answers as the officer's. -/
namespace Go.Ab
open Go Go.Proofs
set_option maxRecDepth 100000
theorem any_bad : ∀ zs : List Int, zs.any badId = !(zs.all goodId)
  | [] => rfl
  | z :: zs => by
    rw [List.any_cons, List.all_cons, any_bad zs, Bool.not_and]
    rfl
theorem mk_nil (zs : List Int) : (mk zs []).map bC = List.replicate zs.length (bC false) := by
  unfold mk
  rw [List.map_map, List.eq_replicate_iff]
  refine ⟨by rw [List.length_map], fun b hb => ?_⟩
  obtain ⟨z, _, rfl⟩ := List.mem_map.1 hb
  simp
theorem outR_smp (s : ByteArray) {zs : List Int} {n : Nat} (ha : ascB zs = true) (hn : n ≤ zs.length) (he : smpE zs (n : Nat) = 0) : outR (zs.filter fun z => decide (z ∈ picks (fP s) 0 zs n)) = smpR s zs (n : Nat) := by
  rw [← smp_filter (fP_in s) (ascB_asc ha) hn]
  unfold outR smpR
  rw [smp_len, if_neg (fun h => h he), Int.toNat_natCast]
  cases n with
  | zero => rfl
  | succ k => rfl
theorem Q18_end (s : ByteArray) (t : Tag) (zs : List Int) (n : Nat) (hz : zs.length ≤ 1000) (o : Out) (h : Q18 s t zs n o) : contF MB c13 lpC 13 0 18 o = some (outR (zs.filter fun z => decide (z ∈ picks (fP s) 0 zs n))) := by
  rcases h with ⟨g, rfl⟩ | rfl
  · rw [rk18r]
    exact last30 t zs _ hz _ _ (rh30x t zs _ _ g zs.length 0)
  · rw [rk18n]
    exact last30 t zs _ hz _ _ (rh30n t zs _ zs.length 0)
theorem r13 (s : ByteArray) (t : Tag) (zs : List Int) (n : Int) (hl : zs.length ≤ 64) (hs : s.size ≤ 1000) : evBody MB c13 lpC 13 [.v (.str s), .sl t 1 (zs.map iC), .v (.int .i64 n)] [] = some (smpR s zs n) := by
  rw [rf13, decide_eq_false (by rw [List.length_map]; omega), cond_false]
  rcases rloop4 s t zs n (by omega) with ⟨hg, i, h4⟩ | ⟨hg, i, h4⟩
  · have hb : zs.any badId = false := by rw [any_bad, hg]; rfl
    rw [h4, Option.bind_some, rk4e]
    rcases rloop9 s t zs n (by omega) with ⟨ha, i, h9⟩ | ⟨ha, i, h9⟩
    · rw [h9, Option.bind_some]
      by_cases h0 : n ≥ 0
      · by_cases h1 : n ≤ (zs.length : Nat)
        · have he : smpE zs n = 0 := by unfold smpE; rw [hb, ha, if_neg (by simp), if_pos rfl, if_pos ⟨h0, h1⟩]
          obtain ⟨m, rfl⟩ : ∃ m : Nat, n = m := ⟨n.toNat, by omega⟩
          have hm : m ≤ zs.length := by omega
          rw [← outR_smp s ha hm he]
          cases zs with
          | nil =>
            have hm0 : m = 0 := by simpa using hm
            subst hm0
            rw [rk9e0, decide_eq_true (by omega), cond_true, decide_eq_true (by omega), Bool.not_true, cond_false]
            obtain ⟨o, k1, k2⟩ := rrounds18 s t [] 0 (by simp) (by simp) hs (e18 s t [] ((0 : Nat) : Int) (.sl .full 1 []) (.rs 0 0 1 0 0) 0) [.arr 1 0 (([] : List Bool).map bC)] (.inr ⟨rfl, rh18n s t [] [] _ 0 0⟩)
            rw [k1, Option.bind_some]
            exact Q18_end s t [] 0 (by simp) o k2
          | cons z zs =>
            have hr : room 8 (0 + (List.map iC (z :: zs)).length) = true := by
              rw [List.length_map]
              unfold room
              simp only [Bool.and_eq_true, decide_eq_true_eq]
              omega
            have hr1 : room 1 (((List.map iC (z :: zs)).length : Nat) : Int).toNat = true := by
              rw [List.length_map, Int.toNat_natCast]
              unfold room
              simp only [Bool.and_eq_true, decide_eq_true_eq]
              omega
            have hd : decide ((((List.map iC (z :: zs)).length : Nat) : Int).toNat ≤ (((List.map iC (z :: zs)).length : Nat) : Int).toNat) = true := decide_eq_true (Nat.le_refl _)
            have hle : decide (((m : Nat) : Int) ≤ ((List.map iC (z :: zs)).length : Nat)) = true := decide_eq_true (by rw [List.length_map]; omega)
            rw [rk9e1, decide_eq_true h0, cond_true, hle, Bool.not_true, cond_false, hr, hr1, hd]
            simp only [Bool.and_self, cond_true]
            rw [List.length_map, Int.toNat_natCast, Nat.zero_add, ← mk_nil]
            obtain ⟨o, k1, k2⟩ := rrounds18 s t (z :: zs) m (by omega) hm hs (e18 s t (z :: zs) (m : Nat) (.rs 0 0 1 0 (z :: zs).length) (.rs 1 0 1 0 (z :: zs).length) 0) (sR18 0 (z :: zs) (mk (z :: zs) []))
              (.inl ⟨by simp, 0, rh18 s t (z :: zs) (z :: zs) (mk (z :: zs) []) _ 0 0 (z :: zs).length (z :: zs).length⟩)
            have k1' : lpC 18 0 (lb MB c13 lpC 13 0 18) (e18 s t (z :: zs) (m : Nat) (.rs 0 0 1 0 (z :: zs).length) (.rs 1 0 1 0 (z :: zs).length) 0) [.arr 1 0 ((z :: zs).map iC), .arr 1 0 ((mk (z :: zs) []).map bC)] = some o := k1
            rw [k1', Option.bind_some]
            exact Q18_end s t (z :: zs) m (by omega) o k2
        · have he : smpE zs n = 15 := by unfold smpE; rw [hb, ha, if_neg (by simp), if_pos rfl, if_neg (fun h => h1 h.2)]
          unfold smpR
          rw [he, if_pos (by decide)]
          cases zs with
          | nil =>
            have h1' : ¬ n ≤ 0 := by simpa using h1
            rw [rk9e0, decide_eq_true h0, cond_true, decide_eq_false h1', Bool.not_false, cond_true]
          | cons z zs =>
            rw [rk9e1, decide_eq_true h0, cond_true, decide_eq_false (by rw [List.length_map]; exact h1), Bool.not_false, cond_true]
      · have he : smpE zs n = 15 := by unfold smpE; rw [hb, ha, if_neg (by simp), if_pos rfl, if_neg (fun h => h0 h.1)]
        unfold smpR
        rw [he, if_pos (by decide)]
        cases zs with
        | nil => rw [rk9e0, decide_eq_false h0, cond_false]
        | cons z zs => rw [rk9e1, decide_eq_false h0, cond_false]
    · have he : smpE zs n = 5 := by unfold smpE; rw [hb, ha, if_neg (by simp), if_neg (by simp)]
      rw [h9, Option.bind_some, rk9r]
      unfold smpR
      rw [he, if_pos (by decide)]
  · have hb : zs.any badId = true := by rw [any_bad, hg]; rfl
    have he : smpE zs n = 2 := by unfold smpE; rw [hb, if_pos rfl]
    rw [h4, Option.bind_some, rk4r]
    unfold smpR
    rw [he, if_pos (by decide)]
/-! ### The two summaries, for long lists, too -/
def longR : D × Sto := (.tup [.v .nils, .v (.int .i64 8)], [])
theorem r13l (s : ByteArray) (t : Tag) (zs : List Int) (n : Int) (hl : 64 < zs.length) : evBody MB c13 lpC 13 [.v (.str s), .sl t 1 (zs.map iC), .v (.int .i64 n)] [] = some longR := by
  rw [rf13, decide_eq_true (by rw [List.length_map]; omega), cond_true]
  rfl
theorem r11l (s : ByteArray) (t : Tag) (zs : List Int) (n : Int) (hl : 64 < zs.length) : evBody MZ c11 lpC 11 [.v (.str s), .sl t 1 (zs.map iC), .v (.int .i64 n)] [] = some longR := by
  rw [f11, decide_eq_true (by rw [List.length_map]; omega), cond_true]
  rfl
/-- Sample, as the law reads it. -/
def ySm : SumF := fun args σ _ K =>
  match args, σ with
  | [.v (.str s), .sl _ 1 xs, .v (.int .i64 n)], [] => (decI xs).bind fun zs => bif Nat.ble s.size 1000 then
      bif Nat.ble zs.length 64 then
        bif decide (smpE zs n = 0) then
          bif decide (n = 0) then K (.tup [.v .nils, .v (.int .i64 0)]) []
          else K (.tup [.rs 0 (n.toNat - 1) 1 0 n.toNat, .v (.int .i64 0)]) [.arr 1 (n.toNat - 1) ((smp (fP s) zs n.toNat).map iC)]
        else K (.tup [.v .nils, .v (.int .i64 (smpE zs n))]) []
      else K (.tup [.v .nils, .v (.int .i64 8)]) []
    else none
  | _, _ => none
theorem smpR_K {R : Type} (s : ByteArray) (zs : List Int) (n : Int) (K : D → Sto → Option R) : K (smpR s zs n).1 (smpR s zs n).2 = bif decide (smpE zs n = 0) then
          bif decide (n = 0) then K (.tup [.v .nils, .v (.int .i64 0)]) []
          else K (.tup [.rs 0 (n.toNat - 1) 1 0 n.toNat, .v (.int .i64 0)]) [.arr 1 (n.toNat - 1) ((smp (fP s) zs n.toNat).map iC)]
        else K (.tup [.v .nils, .v (.int .i64 (smpE zs n))]) [] := by
  unfold smpR
  by_cases he : smpE zs n = 0
  · rw [if_neg (fun h => h he), decide_eq_true he, cond_true]
    by_cases hn : n = 0
    · subst hn
      rfl
    · have h3 := smpE_in he
      rw [decide_eq_false hn, cond_false]
      obtain ⟨k, rfl⟩ : ∃ k : Nat, n = ((k + 1 : Nat) : Int) := ⟨n.toNat - 1, by omega⟩
      rw [Int.toNat_natCast]
      rfl
  · rw [if_pos he, decide_eq_false he]
    rfl
theorem ySm_ok {f : FuncId} (hS : ∀ s t (zs : List Int) n, zs.length ≤ 64 → s.size ≤ 1000 → CallSem PO f [.v (.str s), .sl t 1 (zs.map iC), .v (.int .i64 n)] [] (smpR s zs n).1 (smpR s zs n).2)
    (hL : ∀ s t (zs : List Int) n, 64 < zs.length → CallSem PO f [.v (.str s), .sl t 1 (zs.map iC), .v (.int .i64 n)] [] longR.1 longR.2) : SumFOk PO f ySm := fun args σ R K r hr => by
  unfold ySm at hr
  split at hr
  · rename_i s t xs n
    simp only [Option.bind_eq_some_iff] at hr
    obtain ⟨zs, h1, h2⟩ := hr
    obtain ⟨hc, hK⟩ := bif_then h2
    have k1 := Nat.le_of_ble_eq_true hc
    have hxs := decI_ok h1
    subst hxs
    cases hb : Nat.ble zs.length 64 with
    | true =>
      rw [hb, cond_true, ← smpR_K s zs n K] at hK
      exact ⟨_, _, hK, hS s t zs n (Nat.le_of_ble_eq_true hb) k1⟩
    | false =>
      rw [hb, cond_false] at hK
      refine ⟨_, _, hK, hL s t zs n ?_⟩
      rcases Nat.lt_or_ge 64 zs.length with h | h
      · exact h
      · rw [Nat.ble_eq_true_of_le h] at hb; cases hb
  · cases hr
theorem o11m : SumFOk PO 11 ySm := ySm_ok (fun s t zs n hl hs => call_z c11_ok (by kernel_rfl) (by decide) (r11 s t zs n hl (cat1S hs) (fun i _ => cat2S hs i))) (fun s t zs n hl => call_z c11_ok (by kernel_rfl) (by decide) (r11l s t zs n hl))
theorem o13m : SumFOk PO 13 ySm := ySm_ok (fun s t zs n hl hs => call_b c13_ok (by kernel_rfl) (by decide) (r13 s t zs n hl hs)) (fun s t zs n hl => call_b c13_ok (by kernel_rfl) (by decide) (r13l s t zs n hl))
end Go.Ab
