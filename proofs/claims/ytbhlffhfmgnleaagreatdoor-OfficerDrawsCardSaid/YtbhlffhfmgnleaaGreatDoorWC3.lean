/- From a row's conditions to the evaluator's relation, and back. -/
import Derived.Test.YtbhlffhfmgnleaaGreatDoorWC2
import Derived.Test.YtbhlffhfmgnleaaGreatDoorCards
import Derived.Test.YtbhlffhfmgnleaaGreatDoorTie
import Derived.OpenShut
import Derived.Deep.DeepHandedRow
import Derived.Lib.LaidTab
set_option linter.all false
namespace Go.Ab
open Go Go.Proofs Go.RowKit

/-- The listed variables, one by one. -/
theorem laid_pick {P : Program} {w : World} : ∀ {laid : List (String × DataW Unit)} {ps : List MemPlace}, DataW.LaidVars P w laid ps → ∀ {n : String} {d : DataW Unit}, (n, d) ∈ laid →
    ∃ g t cs fuel p, P.globalNamed n = some g ∧ (P.globals[g]?).map (·.type) = some t ∧ w.var? P n = some cs ∧ DataW.trod (fun _ => ()) P w 0 (fun _ => true) false fuel t cs.toList = some (d, p)
  | [], ps, h, n, d, hm => by cases hm
  | (n0, d0) :: r, ps, h, n, d, hm => by
    obtain ⟨g, t, cs, fuel, p, q, h1, h2, h3, h4, h5, _⟩ := h
    rcases List.mem_cons.1 hm with e | e
    · cases e
      exact ⟨g, t, cs, fuel, p, h1, h2, h3, h4⟩
    · exact laid_pick h5 e

theorem chunks_flat {α β : Type} (f : α → β) (m : Nat) : ∀ (rows : List (List α)) (cs : List β), cs.length = rows.length * m → (∀ i r, rows[i]? = some r → (cs.drop (i * m)).take m = r.map f) → cs = rows.flatten.map f
  | [], cs, hl, _ => by
    have : cs = [] := List.eq_nil_of_length_eq_zero (by simpa using hl)
    simp [this]
  | r :: rows, cs, hl, h => by
    have h0 := h 0 r rfl
    rw [Nat.zero_mul, List.drop_zero] at h0
    have hrest := chunks_flat f m rows (cs.drop m) (by rw [List.length_drop, hl, List.length_cons, Nat.succ_mul]; omega) fun i q hq => by
      have := h (i + 1) q (by simpa using hq)
      rw [List.drop_drop]
      rw [Nat.succ_mul] at this
      rw [Nat.add_comm]
      exact this
    rw [List.flatten_cons, List.map_append, ← h0, ← hrest, List.take_append_drop]

/-- An array of arrays of integers that reads as a table holds its numbers. -/
theorem cells_of_mat {H : Type} {enc : TypeId × Value → H} {P : Program} {w : World} {base : Nat} {sp : Nat → Bool} {held : Bool} {fuel : Nat} {t e u : TypeId} {n m : Nat} {k : IntKind} {cs : List Value} {rows : List (List Int)} {p : List MemPlace}
    (ht : P.underlying t = some (.array n e)) (he : P.underlying e = some (.array m u)) (hu : P.underlying u = some (.int k)) (hcu : P.cellsOf u = 1) (hce : P.cellsOf e = m) (hct : P.cellsOf t = n * m)
    (h : DataW.trod enc P w base sp held fuel t cs = some (.agg (rows.map (Lib.tabData k)), p)) : cs = rows.flatten.map fun z => Value.int k z := by
  obtain ⟨xs, fu, rfl, hx, hl, hxl, hget⟩ := DataW.trod_array ht h
  have hfst : xs.map (·.1) = rows.map (Lib.tabData k) := by
    have := congrArg Prod.fst hx
    simpa using this.symm
  have hrl : rows.length = n := by
    have := congrArg List.length hfst
    simp at this
    omega
  refine chunks_flat _ m rows cs (by rw [hl, hct, hrl]) fun i r hr => ?_
  have hi : i < n := by
    have := (List.getElem?_eq_some_iff.1 hr).1
    omega
  have hg := hget i hi
  rw [hce] at hg
  have hxi : xs[i]? = some xs[i] := List.getElem?_eq_getElem (by omega)
  have hd : xs[i].1 = Lib.tabData k r := by
    have := congrArg (fun l => l[i]?) hfst
    simp only [List.getElem?_map, hxi, hr, Option.map_some, Option.some.injEq] at this
    exact this
  rw [hxi] at hg
  have hg' : DataW.trod enc P w base sp held fu e ((cs.drop (i * m)).take m) = some (Lib.tabData k r, xs[i].2) := by
    rw [hg, ← hd]
  exact Lib.cells_of_tab he hu hcu hce hg'

/-- The world as the evaluator sees it at the law's call. -/
noncomputable def X0 (W : World) : Cx :=
  { w := W, S := fun b o => b < 4 ∧ ∃ u, W.cell? (at_ b o) = some u, T := fun b o => b < 4 ∧ ∃ u, W.cell? (at_ b o) = some u, L := fun _ => ⟨0, 0, 0⟩, τ := fun _ => none }

/-- The four tables that are read. -/
def TabsAt (W : World) : Prop := ∀ g cs, globTab g = some cs → g < 4 ∧ ∃ c e f, W.heap[g]? = some (.cells c e f) ∧ c.size = cs.length ∧ 0 < cs.length ∧ ∀ j v, cs[j]? = some v → ∃ k n, v = .int k n ∧ c.getD j undef = .int k n

theorem x0_sto {W : World} (h : TabsAt W) : StoR (X0 W) where
  rows := fun r row hr => by cases hr
  inj := fun r r' row row' hr => by cases hr
  sep := fun b o _ ⟨r, row, hr, _⟩ => by cases hr
  sub := fun b o h => h
  live := fun b o h => h.2
  glob := fun g cs hg => by
    obtain ⟨h0, c, e, f, h1, h2, h3, h4⟩ := h g cs hg
    refine ⟨⟨g, 0, fun j => c.getD j undef, rfl, fun j hj => ?_, fun j v hv => ?_⟩, c, e, f, h1, h2, h3⟩
    · have hc : W.cell? (at_ g (0 + j)) = some (c.getD j undef) := by
        rw [Nat.zero_add]
        rw [cell_of_row _ _ _ _ _ _ h1, Array.getD_eq_getD_getElem?, Array.getElem?_eq_getElem (by omega)]
        rfl
      exact ⟨⟨h0, _, hc⟩, hc⟩
    · obtain ⟨k, n, rfl, e⟩ := h4 j v hv
      show VR W _ (V.int k n) (c.getD j undef)
      rw [e]
      exact .int k n

theorem var_heap {P : Program} {W : World} {n : String} {g : Nat} {c : Array Value} (hg : P.globalNamed n = some g) (h : W.var? P n = some c) : ∃ e f, W.heap[g]? = some (.cells c e f) := by
  unfold World.var? at h
  rw [hg] at h
  simp only [Option.bind_some] at h
  split at h
  · cases h
    exact ⟨_, _, by assumption⟩
  · cases h

def theLaid : List (String × DataW Unit) := [("math/bits.deBruijn32tab", YtbhlffhfmgnleaaGreatDoor.Rows.laid_math_bits_deBruijn32tab), ("math/bits.deBruijn64tab", YtbhlffhfmgnleaaGreatDoor.Rows.laid_math_bits_deBruijn64tab), ("internal/strconv.uint64pow10", YtbhlffhfmgnleaaGreatDoor.Rows.laid_internal_strconv_uint64pow10), ("spile/book.first", YtbhlffhfmgnleaaGreatDoor.Rows.laid_spile_book_first), ("spile/book.order", YtbhlffhfmgnleaaGreatDoor.Rows.laid_spile_book_order), ("spile/book.quarters", YtbhlffhfmgnleaaGreatDoor.Rows.laid_spile_book_quarters)]
def firstI : List Int := firstN.map Int.ofNat
def orderI : List (List Int) := orderN.map fun l => l.map Int.ofNat
def quartersI : List (List Int) := quartersN.map fun l => l.map Int.ofNat

theorem tab_at {c : Array Value} {k : IntKind} {zs : List Int} {cs : List V} (hc : c.toList = zs.map fun z => Value.int k z) (hcs : cs = zs.map fun z => V.int k z) :
    c.size = cs.length ∧ ∀ j v, cs[j]? = some v → ∃ k n, v = .int k n ∧ c.getD j undef = .int k n := by
  subst hcs
  refine ⟨by rw [← Array.length_toList, hc]; simp, fun j v hv => ?_⟩
  rw [List.getElem?_map, Option.map_eq_some_iff] at hv
  obtain ⟨z, hz, rfl⟩ := hv
  refine ⟨k, z, rfl, ?_⟩
  rw [Array.getD_eq_getD_getElem?, ← Array.getElem?_toList, hc, List.getElem?_map, hz]
  rfl

set_option maxRecDepth 100000 in
theorem tabs_of_laid {W : World} (h : laidMet PO theLaid W) : TabsAt W := by
  obtain ⟨ps, hl, _⟩ := h
  -- the four variables
  have v0 : ∃ c e f, W.heap[0]? = some (.cells c e f) ∧ c.toList = firstI.map fun z => Value.int .u32 z := by
    obtain ⟨g, t, c, fuel, p, h1, h2, h3, h4⟩ := laid_pick hl (n := "spile/book.first") (d := YtbhlffhfmgnleaaGreatDoor.Rows.laid_spile_book_first) (by simp [theLaid])
    obtain rfl : g = 0 := (Option.some.inj (h1.symm.trans (show PO.globalNamed "spile/book.first" = some 0 by kernel_rfl)))
    obtain rfl : t = 82 := (Option.some.inj (h2.symm.trans (show (PO.globals[0]?).map (·.type) = some 82 by kernel_rfl)))
    obtain ⟨e, f, hh⟩ := var_heap h1 h3
    exact ⟨c, e, f, hh, Lib.cells_of_tab (n := 8) (e := 77) (k := .u32) (by kernel_rfl) (by kernel_rfl) (by kernel_rfl) (by kernel_rfl) h4⟩
  have v3 : ∃ c e f, W.heap[3]? = some (.cells c e f) ∧ c.toList = pow10N.map fun z => Value.int .u64 z := by
    obtain ⟨g, t, c, fuel, p, h1, h2, h3, h4⟩ := laid_pick hl (n := "internal/strconv.uint64pow10") (d := YtbhlffhfmgnleaaGreatDoor.Rows.laid_internal_strconv_uint64pow10) (by simp [theLaid])
    obtain rfl : g = 3 := (Option.some.inj (h1.symm.trans (show PO.globalNamed "internal/strconv.uint64pow10" = some 3 by kernel_rfl)))
    obtain rfl : t = 199 := (Option.some.inj (h2.symm.trans (show (PO.globals[3]?).map (·.type) = some 199 by kernel_rfl)))
    obtain ⟨e, f, hh⟩ := var_heap h1 h3
    exact ⟨c, e, f, hh, Lib.cells_of_tab (n := 20) (e := 83) (k := .u64) (by kernel_rfl) (by kernel_rfl) (by kernel_rfl) (by kernel_rfl) h4⟩
  have v1 : ∃ c e f, W.heap[1]? = some (.cells c e f) ∧ c.toList = orderI.flatten.map fun z => Value.int .u8 z := by
    obtain ⟨g, t, c, fuel, p, h1, h2, h3, h4⟩ := laid_pick hl (n := "spile/book.order") (d := YtbhlffhfmgnleaaGreatDoor.Rows.laid_spile_book_order) (by simp [theLaid])
    obtain rfl : g = 1 := (Option.some.inj (h1.symm.trans (show PO.globalNamed "spile/book.order" = some 1 by kernel_rfl)))
    obtain rfl : t = 119 := (Option.some.inj (h2.symm.trans (show (PO.globals[1]?).map (·.type) = some 119 by kernel_rfl)))
    obtain ⟨e, f, hh⟩ := var_heap h1 h3
    exact ⟨c, e, f, hh, cells_of_mat (n := 10) (m := 16) (e := 118) (u := 5) (k := .u8) (rows := orderI) (by kernel_rfl) (by kernel_rfl) (by kernel_rfl) (by kernel_rfl) (by kernel_rfl) (by kernel_rfl) h4⟩
  have v2 : ∃ c e f, W.heap[2]? = some (.cells c e f) ∧ c.toList = quartersI.flatten.map fun z => Value.int .u8 z := by
    obtain ⟨g, t, c, fuel, p, h1, h2, h3, h4⟩ := laid_pick hl (n := "spile/book.quarters") (d := YtbhlffhfmgnleaaGreatDoor.Rows.laid_spile_book_quarters) (by simp [theLaid])
    obtain rfl : g = 2 := (Option.some.inj (h1.symm.trans (show PO.globalNamed "spile/book.quarters" = some 2 by kernel_rfl)))
    obtain rfl : t = 121 := (Option.some.inj (h2.symm.trans (show (PO.globals[2]?).map (·.type) = some 121 by kernel_rfl)))
    obtain ⟨e, f, hh⟩ := var_heap h1 h3
    exact ⟨c, e, f, hh, cells_of_mat (n := 8) (m := 4) (e := 120) (u := 5) (k := .u8) (rows := quartersI) (by kernel_rfl) (by kernel_rfl) (by kernel_rfl) (by kernel_rfl) (by kernel_rfl) (by kernel_rfl) h4⟩
  have fin : ∀ {g : Nat} {k : IntKind} {zs : List Int} {cs : List V}, g < 4 → (∃ c e f, W.heap[g]? = some (.cells c e f) ∧ c.toList = zs.map fun z => Value.int k z) → cs = zs.map (fun z => V.int k z) → 0 < cs.length →
      g < 4 ∧ ∃ c e f, W.heap[g]? = some (.cells c e f) ∧ c.size = cs.length ∧ 0 < cs.length ∧ ∀ j v, cs[j]? = some v → ∃ k n, v = .int k n ∧ c.getD j undef = .int k n := fun hg ⟨c, e, f, h1, h2⟩ hcs hp => by
    obtain ⟨k1, k2⟩ := tab_at h2 hcs
    exact ⟨hg, c, e, f, h1, k1, hp, k2⟩
  intro g cs hg
  unfold globTab at hg
  rcases g with _ | _ | _ | _ | g
  · cases hg; exact fin (by decide) v0 (by rfl) (by decide)
  · cases hg; exact fin (by decide) v1 (by rfl) (by decide)
  · cases hg; exact fin (by decide) v2 (by rfl) (by decide)
  · cases hg; exact fin (by decide) v3 (by rfl) (by decide)
  · exfalso
    simp at hg

/-- What a function without rows comes to, of the law's world. -/
theorem sem_calls {W : World} (h : TabsAt W) {f : FuncId} (hf : f ≠ yid) {args : List D} {d : D} (hc : CallSem PO f args [] d []) {us : Array Value} (hsz : us.size = args.length)
    (hd : DRs (X0 W) args (fun j => us.getD j undef)) : Calls PO f us W fun e W' => ∃ v, e = .returned v ∧ Below W.heap.size W W' ∧ ∃ X, X.w = W' ∧ DR X d v := by
  have hc := hc.2 (X0 W) us (x0_sto h) (fun q => by show (none : Option Row) = _; simp) hsz hd
  unfold RunG at hc
  rw [if_neg hf] at hc
  refine hc.mono fun e w'' hh => ?_
  obtain ⟨v, rfl, X2, rfl, k1, _, _, k4⟩ := hh
  refine ⟨v, rfl, ⟨k1.os, k1.tape, k1.output, k1.size, fun b hb' => k1.blk b hb' ?_⟩, X2, rfl, k4⟩
  rintro ⟨r, row, h1, _⟩
  cases h1

theorem below_kept {W W' : World} (h : Below W.heap.size W W') (may : MemPlace → Prop) : W.keptBut W' may := by
  refine ⟨h.os, h.output, fun i hi => ?_⟩
  rw [h.block i hi]
  cases W.heap[i]? with
  | none => rfl
  | some o => cases o <;> first | exact ⟨rfl, rfl, rfl, fun _ _ => rfl⟩ | exact .inr ⟨rfl, rfl⟩ | rfl

def deB32 : List Int := [0, 1, 28, 2, 29, 14, 24, 3, 30, 22, 20, 15, 25, 17, 4, 8, 31, 27, 13, 23, 21, 19, 16, 7, 26, 12, 18, 6, 11, 5, 10, 9]
def deB64 : List Int := [0, 1, 56, 2, 57, 49, 28, 3, 61, 58, 42, 50, 38, 29, 17, 4, 62, 47, 59, 36, 45, 43, 51, 22, 53, 39, 33, 30, 24, 18, 12, 5, 63, 55, 48, 27, 60, 41, 37, 16, 46, 35, 44, 21, 52, 32, 23, 11, 54, 26, 40, 15, 34, 20, 31, 10, 25, 14, 19, 9, 13, 8, 7, 6]
/-- A world for the witness: the settled one, the tables as their texts lay them. -/
noncomputable def laidWorld (os : Os) : World :=
  let put := fun (w : World) (g : Nat) (c : Array Value) => { w with heap := w.heap.modify g fun
      | .cells _ t frozen => .cells c t frozen
      | o => o }
  let cellsOf := fun (d : List Value) => d.toArray
  put (put (put (put (put (put (World.holding Tryz.prog os ⟨#[], #[], []⟩) 0 (cellsOf (firstI.map fun z => Value.int .u32 z))) 1 (cellsOf (orderI.flatten.map fun z => Value.int .u8 z))) 2 (cellsOf (quartersI.flatten.map fun z => Value.int .u8 z)))
    3 (cellsOf (pow10N.map fun z => Value.int .u64 z))) 4 (cellsOf (deB32.map fun z => Value.int .u8 z))) 5 (cellsOf (deB64.map fun z => Value.int .u8 z))
end Go.Ab

/- From a row's conditions to the evaluator's relation, all of memory read. -/
namespace Go.Ab
open Go Go.Proofs Go.RowKit
noncomputable def X1 (W : World) : Cx :=
  { w := W, S := fun b o => ∃ u, W.cell? (at_ b o) = some u, T := fun b o => ∃ u, W.cell? (at_ b o) = some u, L := fun _ => ⟨0, 0, 0⟩, τ := fun _ => none }
theorem x1_sto {W : World} (h : TabsAt W) : StoR (X1 W) where
  rows := fun r row hr => by cases hr
  inj := fun r r' row row' hr => by cases hr
  sep := fun b o _ ⟨r, row, hr, _⟩ => by cases hr
  sub := fun b o h => h
  live := fun b o h => h
  glob := fun g cs hg => by
    obtain ⟨h0, c, e, f, h1, h2, h3, h4⟩ := h g cs hg
    refine ⟨⟨g, 0, fun j => c.getD j undef, rfl, fun j hj => ?_, fun j v hv => ?_⟩, c, e, f, h1, h2, h3⟩
    · have hc : W.cell? (at_ g (0 + j)) = some (c.getD j undef) := by
        rw [Nat.zero_add]
        rw [cell_of_row _ _ _ _ _ _ h1, Array.getD_eq_getD_getElem?, Array.getElem?_eq_getElem (by omega)]
        rfl
      exact ⟨⟨_, hc⟩, hc⟩
    · obtain ⟨k, n, rfl, e⟩ := h4 j v hv
      show VR W _ (V.int k n) (c.getD j undef)
      rw [e]
      exact .int _ _
theorem sem_calls1 {W : World} (h : TabsAt W) {f : FuncId} (hf : f ≠ yid) {args : List D} {d : D} (hc : CallSem PO f args [] d []) {us : Array Value} (hsz : us.size = args.length)
    (hd : DRs (X1 W) args (fun j => us.getD j undef)) : Calls PO f us W fun e W' => ∃ v, e = .returned v ∧ Below W.heap.size W W' ∧ ∃ X, X.w = W' ∧ DR X d v := by
  have hc := hc.2 (X1 W) us (x1_sto h) (fun q => by show (none : Option Row) = _; simp) hsz hd
  unfold RunG at hc
  rw [if_neg hf] at hc
  refine hc.mono fun e w'' hh => ?_
  obtain ⟨v, rfl, X2, rfl, k1, _, _, k4⟩ := hh
  refine ⟨v, rfl, ⟨k1.os, k1.tape, k1.output, k1.size, fun b hb' => k1.blk b hb' ?_⟩, X2, rfl, k4⟩
  rintro ⟨r, row, h1, _⟩
  cases h1
end Go.Ab
