/- book.text: walked. -/
import Derived.Test.YtbhlffhfmgnleaaGreatDoorWB7
import Derived.Deep.RegionWith
set_option linter.all false
namespace Go.Proofs
open Go.RowKit

theorem bAt_kept {T e : TypeId} {B b : Nat} {p : Value} {bs : List Value} {w w' : World} (h : Lib.BuilderAt T e B b p bs w) (hb : Below w.heap.size w w') : Lib.BuilderAt T e B b p bs w' := by
  obtain ⟨h1, v, h2, h3, h4⟩ := h
  refine ⟨h1, v, ?_, h3.kept (row := none) ⟨hb.os, hb.tape, hb.output, hb.size, fun k hk _ => hb.block k hk⟩ ?_, h4⟩
  · rw [hb.block b (by rw [Array.getElem?_eq_some_iff] at h2; exact h2.1), h2]
  · cases hv : v.ownBlock with
    | none => exact .inl rfl
    | some k => exact .inr (by simp)
theorem isB_kept {T e : TypeId} {B b : Nat} {bs : List Value} {w w' : World} (h : Lib.IsBuilder T e B b bs w) (hb : Below w.heap.size w w') : Lib.IsBuilder T e B b bs w' :=
  h.imp (fun h => bAt_kept h hb) (fun h => bAt_kept h hb)

theorem below_tr {B : Nat} {a w w' : World} (h : Below B a w) (hB : B ≤ a.heap.size) (h' : Below w.heap.size w w') : Below B a w' :=
  h.trans (h'.mono (Nat.le_trans hB h.size))

theorem ws_call (B b : Nat) (bs : List Value) (s : ByteArray) (w : World) (h : Lib.IsBuilder 169 5 B b bs w) (hlen : bs.length + s.size ≤ 140737488355328) (hBw : B ≤ w.heap.size) :
    Calls Tryz.prog 114 #[.pointer (some ⟨b, 0, none⟩), .string s] w fun e w' => e = .returned (.tuple #[.int .i64 s.size, .nilIface]) ∧ (Lib.BuilderAt 169 5 B b (.pointer (some ⟨b, 0, none⟩)) (bs ++ Lib.strCells s) w' ∧ Below B w w') :=
  Any.Builder_WriteString (ρ := Tryz.lays156_ren) { Tryz.lays156 with } Tryz.Builder_Extra_156 B b bs s w h hlen hBw

theorem strB_size (l : List UInt8) : (strB l).size = l.length := by simp [strB, ByteArray.size]

def pageB : ByteArray := ⟨#[112, 97, 103, 101]⟩
def textK (a b : ByteArray) (ps : Nat → ByteArray) (k : Nat) : List UInt8 := lineL [pageB, a, b] ++ ((List.range k).map fun i => lineL [ps i]).flatten
theorem textK_succ (a b : ByteArray) (ps : Nat → ByteArray) (k : Nat) : textK a b ps (k + 1) = textK a b ps k ++ lineL [ps k] := by
  unfold textK
  rw [List.range_succ, List.map_append, List.flatten_append, ← List.append_assoc]
  simp
theorem textK_le (a b : ByteArray) (ps : Nat → ByteArray) {k n : Nat} (h : k ≤ n) : (textK a b ps k).length ≤ (textK a b ps n).length := by
  induction h with
  | refl => exact Nat.le_refl _
  | step _ ih => rw [textK_succ, List.length_append]; omega

/-- What a page's text is, of its lines. -/
def textL (a b : ByteArray) (ps : List ByteArray) : List UInt8 := lineL [pageB, a, b] ++ (ps.map fun p => lineL [p]).flatten

set_option maxHeartbeats 8000000 in
set_option maxRecDepth 100000 in
theorem text_walk (day : Int) (bk o c n : Nat) (dg : ByteArray) (f0 f1 f2 f3 : Nat → Int) (sA sB : Nat → Option Addr) (la ca lb cb : Nat → Nat) (a b : ByteArray) (ps : Nat → ByteArray) (w : World)
    (hcells : ∀ k, k < n → w.cell? ⟨bk, o + k * 6 + 0, none⟩ = some (.int .i64 (f0 k)) ∧ w.cell? ⟨bk, o + k * 6 + 1, none⟩ = some (.int .i64 (f1 k)) ∧ w.cell? ⟨bk, o + k * 6 + 2, none⟩ = some (.int .i64 (f2 k)) ∧
      w.cell? ⟨bk, o + k * 6 + 3, none⟩ = some (.int .i64 (f3 k)) ∧ w.cell? ⟨bk, o + k * 6 + 4, none⟩ = some (.slice (sA k) (la k) (ca k)) ∧ w.cell? ⟨bk, o + k * 6 + 5, none⟩ = some (.slice (sB k) (lb k) (cb k))) (hbk : bk < w.heap.size) (hc : n ≤ c) (hn : n < 1000000)
    (hA : Pf w 17 #[.int .i64 day] (.string a)) (hB : Pf w 17 #[.int .i64 n] (.string b))
    (hP : ∀ k, k < n → Pf w 118 #[.agg #[.int .i64 (f0 k), .int .i64 (f1 k), .int .i64 (f2 k), .int .i64 (f3 k), .slice (sA k) (la k) (ca k), .slice (sB k) (lb k) (cb k)]] (.tuple #[.string (ps k), .int .i64 0]))
    (hlen : (textL a b ((List.range n).map ps)).length ≤ 140737488355328) :
    Calls Tryz.prog 76 #[.agg #[.int .i64 day, .slice (some ⟨bk, o, none⟩) n c, .string dg]] w fun e w' => e = .returned (.string (strB (textL a b ((List.range n).map ps)))) ∧ Below w.heap.size w w' := by
  have htx : textL a b ((List.range n).map ps) = textK a b ps n := by unfold textL textK; rw [List.map_map]; rfl
  rw [htx] at hlen ⊢
  have hl0 : (lineL [pageB, a, b]).length ≤ 140737488355328 := by unfold textK at hlen; simp at hlen; omega
  have below0 : Below w.heap.size w (((w.alloc (Obj.cells #[Value.int IntKind.i64 day, Value.slice (some { block := bk, off := o }) n c, Value.string dg] 91)).alloc (Obj.cells #[Value.pointer none, Value.slice none 0 0] 169)).drew) :=
    ((((Below.refl w.heap.size w).alloc (Nat.le_refl _) _).alloc (by simp) _).drew)
  have cell0 : (((w.alloc (Obj.cells #[Value.int IntKind.i64 day, Value.slice (some { block := bk, off := o }) n c, Value.string dg] 91)).alloc (Obj.cells #[Value.pointer none, Value.slice none 0 0] 169)).drew).cell? ⟨w.heap.size, 1, none⟩ = some (.slice (some ⟨bk, o, none⟩) n c) := by simp
  have bld0 : Lib.IsBuilder 169 5 (w.heap.size + 1) (w.heap.size + 1) [] (((w.alloc (Obj.cells #[Value.int IntKind.i64 day, Value.slice (some { block := bk, off := o }) n c, Value.string dg] 91)).alloc (Obj.cells #[Value.pointer none, Value.slice none 0 0] 169)).drew) := by
    refine .inl ⟨Nat.le_refl _, .slice none 0 0, ?_, ⟨rfl, .inl ⟨rfl, rfl⟩⟩, by simp [Value.ownBlock]⟩
    have hs : (w.alloc (Obj.cells #[Value.int IntKind.i64 day, Value.slice (some { block := bk, off := o }) n c, Value.string dg] 91)).heap.size = w.heap.size + 1 := by simp
    show ((w.alloc (Obj.cells #[Value.int IntKind.i64 day, Value.slice (some { block := bk, off := o }) n c, Value.string dg] 91)).alloc (Obj.cells #[Value.pointer none, Value.slice none 0 0] 169)).heap[w.heap.size + 1]? = _
    rw [← hs]
    exact heap_alloc_new _ _
  have size0 : w.heap.size + 2 ≤ (((w.alloc (Obj.cells #[Value.int IntKind.i64 day, Value.slice (some { block := bk, off := o }) n c, Value.string dg] 91)).alloc (Obj.cells #[Value.pointer none, Value.slice none 0 0] 169)).drew).heap.size := by simp
  go_enter Tryz.func76, Tryz.ntmps76
  go_wp2
  go_region_with (first
    | (go_at_call 17
       first
        | (refine (hA _ below0).mono ?_
           rintro e w1 ⟨rfl, hb1⟩
           have H1 := below_tr below0 (Nat.le_refl _) hb1
           have S1 := Nat.le_trans size0 hb1.size
           have C1 := (hb1.cell (p := ⟨w.heap.size, 1, none⟩) (by simp; omega)).trans cell0
           have B1 := isB_kept bld0 hb1)
        | (refine (hB _ H1).mono ?_
           rintro e w2 ⟨rfl, hb2⟩
           have H2 := below_tr H1 (Nat.le_refl _) hb2
           have S2 := Nat.le_trans S1 hb2.size
           have C2 := (hb2.cell (p := ⟨w.heap.size, 1, none⟩) (by show w.heap.size < w1.heap.size; omega)).trans C1
           have B2 := isB_kept B1 hb2))
    | (go_at_call 117
       refine (line_walk w2.heap.size 0 3 [pageB, a, b] _ (fun j x hj => ?_) (by simp) (by simp) (by simp) hl0).mono ?_
       · match j, hj with
         | 0, hj => cases hj; simp; rfl
         | 1, hj => cases hj; simp
         | 2, hj => cases hj; simp
         | j + 3, hj => cases hj
       rintro e w3 ⟨rfl, hb3⟩
       have hba := (Below.refl w2.heap.size w2).alloc (Nat.le_refl _) (Obj.cells #[Value.string { data := #[112, 97, 103, 101] }, Value.string a, Value.string b] 9)
       have H3 := below_tr (below_tr H2 (Nat.le_refl _) hba) (Nat.le_refl _) hb3
       have S3 := Nat.le_trans S2 (Nat.le_trans hba.size hb3.size)
       have C3 := ((hb3.cell (p := ⟨w.heap.size, 1, none⟩) (by simp; omega)).trans (hba.cell (p := ⟨w.heap.size, 1, none⟩) (by show w.heap.size < w2.heap.size; omega))).trans C2
       have B3 := isB_kept (isB_kept B2 hba) hb3)
    | (go_at_call 114
       refine (ws_call (w.heap.size + 1) (w.heap.size + 1) [] (strB (lineL [pageB, a, b])) w3 B3 (by rw [strB_size]; simpa using hl0) (by omega)).mono ?_
       rintro e w4 ⟨rfl, hB4, hb4⟩
       have H4 := H3.trans (hb4.mono (Nat.le_succ _))
       have S4 := Nat.le_trans S3 hb4.size
       have C4 := (hb4.cell (p := ⟨w.heap.size, 1, none⟩) (by simp)).trans C3))
  all_goals (
    have HL := Any.hidJ hlen
    have HC := Any.hidJ hcells
    have HP := Any.hidJ hP
    clear hlen hcells hP hA hB hb1 hb2 hb3 hb4 hba below0 bld0 size0 cell0 H1 H2 H3 S1 S2 S3 C1 C2 C3 B1 B2 B3 htx
    go_wp2
    have H4' := Any.hidJ H4
    have S4' := Any.hidJ S4
    have B4' := Any.hidJ (Or.inr hB4 : Lib.IsBuilder 169 5 (w.heap.size + 1) (w.heap.size + 1) _ w4)
    clear H4 S4 hB4 C4
    go_loopw [21] (fun i wr => ∃ k : Nat, k ≤ n ∧ i = .int .i64 k ∧ Hid (Lib.IsBuilder 169 5 (w.heap.size + 1) (w.heap.size + 1) (Lib.byteCells (textK a b ps k)) wr) ∧ Hid (Below w.heap.size w wr) ∧ Hid (w.heap.size + 2 ≤ wr.heap.size)) (fun i _ => n - (intOf i).toNat)
    case atStart =>
      refine ⟨0, Nat.zero_le _, rfl, Any.hidJ ?_, H4', S4'⟩
      have hB5 := B4'.out
      have e5 : ([] : List Value) ++ Lib.strCells (strB (lineL [pageB, a, b])) = Lib.byteCells (textK a b ps 0) := by simp [textK, Lib.strCells_eq, strB]
      rw [← e5]
      exact hB5
    case round =>
      obtain ⟨k, hk, rfl, HB, HW, HS⟩ := hrel
      by_cases hkn : k < n
      · have cc : ∀ j u, w.cell? ⟨bk, o + k * 6 + j, none⟩ = some u → wr.cell? ⟨bk, o + k * 6 + j, none⟩ = some u := fun j u hu => (HW.out.cell (p := ⟨bk, o + k * 6 + j, none⟩) hbk).trans hu
        obtain ⟨c0, c1, c2, c3, c4, c5⟩ := HC.out k hkn
        replace c0 := cc 0 _ c0
        rw [Nat.add_zero] at c0
        replace c1 := cc _ _ c1
        replace c2 := cc _ _ c2
        replace c3 := cc _ _ c3
        replace c4 := cc _ _ c4
        replace c5 := cc _ _ c5
        have hlt : (k : Int) < n := by omega
        have hba := (Below.refl wr.heap.size wr).alloc (Nat.le_refl _) (Obj.cells #[Value.int .i64 (f0 k), Value.int .i64 (f1 k), Value.int .i64 (f2 k), Value.int .i64 (f3 k), Value.slice (sA k) (la k) (ca k), Value.slice (sB k) (lb k) (cb k)] 47)
        have Hx := below_tr HW.out (Nat.le_refl _) hba
        have Bx := isB_kept HB.out hba
        have hlen1 : (textK a b ps k).length + (lineL [ps k]).length ≤ 140737488355328 := by
          have h1 := textK_le a b ps (show k + 1 ≤ n from hkn)
          rw [textK_succ, List.length_append] at h1
          have := HL.out
          omega
        have hps := HP.out k hkn
        clear HC
        go_wp2_with (first
          | (go_at_call 118
             refine (hps _ Hx).mono ?_
             rintro e w5 ⟨rfl, hb5⟩
             have H5 := below_tr Hx (Nat.le_refl _) hb5
             have S5 := Nat.le_trans (Nat.le_trans HS.out hba.size) hb5.size
             have B5 := isB_kept Bx hb5)
          | (go_at_call 117
             refine (line_walk w5.heap.size 0 1 [ps k] _ (fun j x hj => ?_) (by simp) (by simp) (by simp) (by omega)).mono ?_
             · match j, hj with
               | 0, hj => cases hj; simp
               | j + 1, hj => cases hj
             rintro e w6 ⟨rfl, hb6⟩
             have hbb := (Below.refl w5.heap.size w5).alloc (Nat.le_refl _) (Obj.cells #[Value.string (ps k)] 9)
             have H6 := below_tr (below_tr H5 (Nat.le_refl _) hbb) (Nat.le_refl _) hb6
             have S6 := Nat.le_trans S5 (Nat.le_trans hbb.size hb6.size)
             have B6 := isB_kept (isB_kept B5 hbb) hb6)
          | (go_at_call 114
             refine (ws_call (w.heap.size + 1) (w.heap.size + 1) (Lib.byteCells (textK a b ps k)) (strB (lineL [ps k])) w6 B6 (by rw [strB_size, Lib.byteCells_length]; exact hlen1) (by omega)).mono ?_
             rintro e w7 ⟨rfl, hB7, hb7⟩
             have H7 := H6.trans (hb7.mono (Nat.le_succ _))
             have S7 := Nat.le_trans S6 hb7.size))
        go_roundw
        case rel =>
          refine ⟨k + 1, hkn, by go_num, Any.hidJ (.inr ?_), Any.hidJ H7, Any.hidJ S7⟩
          have e7 : Lib.byteCells (textK a b ps k) ++ Lib.strCells (strB (lineL [ps k])) = Lib.byteCells (textK a b ps (k + 1)) := by rw [textK_succ]; simp [Lib.strCells_eq, strB, Lib.byteCells]
          rw [← e7]
          exact hB7
        case measure => simp [intOf]; omega
      · have hge : ¬ (k : Int) < n := by omega
        obtain rfl : k = n := by omega
        go_wp2_with (go_at_call 116
                     refine (Tryz.Builder_String_any (w.heap.size + 1) (w.heap.size + 1) (textK a b ps k) wr HB.out (by have := HS.out; omega)).mono ?_
                     rintro e w5 ⟨rfl, hb5⟩
                     have H5 := HW.out.trans (hb5.mono (Nat.le_succ _)))
        go_ret
        exact ⟨rfl, H5⟩)
end Go.Proofs
