/- The rounds in which the reference's block mixes. Made by a program. -/
import Derived.Test.YtbhlffhfmgnleaaGreatDoorWE1
import Derived.Test.YtbhlffhfmgnleaaGreatDoorWB4
set_option linter.all false
namespace Go.Ab
open Go
set_option maxRecDepth 100000
theorem rmixR0 (n : Nat) (h0 h1 h2 h3 h4 h5 h6 h7 m0 m1 m2 m3 m4 m5 m6 m7 m8 m9 m10 m11 m12 m13 m14 m15 v0 v1 v2 v3 v4 v5 v6 v7 v8 v9 v10 v11 v12 v13 v14 v15 : Int) : rlb (fun _ k body => loopN k body (n + 20)) 16 (renvC 0) [.box 82 (List.map I32 [h0, h1, h2, h3, h4, h5, h6, h7]), .box 82 zD, .box 117 (List.map I32 [m0, m1, m2, m3, m4, m5, m6, m7, m8, m9, m10, m11, m12, m13, m14, m15]), .box 117 (List.map I32 [v0, v1, v2, v3, v4, v5, v6, v7, v8, v9, v10, v11, v12, v13, v14, v15])] =
    some (.normal, renvC 1, [.box 82 (List.map I32 [h0, h1, h2, h3, h4, h5, h6, h7]), .box 82 zD, .box 117 (List.map I32 [m0, m1, m2, m3, m4, m5, m6, m7, m8, m9, m10, m11, m12, m13, m14, m15]), .box 117 (List.map I32 (rroundL [m0, m1, m2, m3, m4, m5, m6, m7, m8, m9, m10, m11, m12, m13, m14, m15] 0 [v0, v1, v2, v3, v4, v5, v6, v7, v8, v9, v10, v11, v12, v13, v14, v15])), .box 140 ((orderN.getD 0 []).map fun (n : Nat) => I64 n)]) := by kernel_rfl
theorem rmixR1 (n : Nat) (h0 h1 h2 h3 h4 h5 h6 h7 m0 m1 m2 m3 m4 m5 m6 m7 m8 m9 m10 m11 m12 m13 m14 m15 v0 v1 v2 v3 v4 v5 v6 v7 v8 v9 v10 v11 v12 v13 v14 v15 : Int) : rlb (fun _ k body => loopN k body (n + 20)) 16 (renvC 1) [.box 82 (List.map I32 [h0, h1, h2, h3, h4, h5, h6, h7]), .box 82 zD, .box 117 (List.map I32 [m0, m1, m2, m3, m4, m5, m6, m7, m8, m9, m10, m11, m12, m13, m14, m15]), .box 117 (List.map I32 [v0, v1, v2, v3, v4, v5, v6, v7, v8, v9, v10, v11, v12, v13, v14, v15])] =
    some (.normal, renvC 2, [.box 82 (List.map I32 [h0, h1, h2, h3, h4, h5, h6, h7]), .box 82 zD, .box 117 (List.map I32 [m0, m1, m2, m3, m4, m5, m6, m7, m8, m9, m10, m11, m12, m13, m14, m15]), .box 117 (List.map I32 (rroundL [m0, m1, m2, m3, m4, m5, m6, m7, m8, m9, m10, m11, m12, m13, m14, m15] 1 [v0, v1, v2, v3, v4, v5, v6, v7, v8, v9, v10, v11, v12, v13, v14, v15])), .box 140 ((orderN.getD 1 []).map fun (n : Nat) => I64 n)]) := by kernel_rfl
theorem rmixR2 (n : Nat) (h0 h1 h2 h3 h4 h5 h6 h7 m0 m1 m2 m3 m4 m5 m6 m7 m8 m9 m10 m11 m12 m13 m14 m15 v0 v1 v2 v3 v4 v5 v6 v7 v8 v9 v10 v11 v12 v13 v14 v15 : Int) : rlb (fun _ k body => loopN k body (n + 20)) 16 (renvC 2) [.box 82 (List.map I32 [h0, h1, h2, h3, h4, h5, h6, h7]), .box 82 zD, .box 117 (List.map I32 [m0, m1, m2, m3, m4, m5, m6, m7, m8, m9, m10, m11, m12, m13, m14, m15]), .box 117 (List.map I32 [v0, v1, v2, v3, v4, v5, v6, v7, v8, v9, v10, v11, v12, v13, v14, v15])] =
    some (.normal, renvC 3, [.box 82 (List.map I32 [h0, h1, h2, h3, h4, h5, h6, h7]), .box 82 zD, .box 117 (List.map I32 [m0, m1, m2, m3, m4, m5, m6, m7, m8, m9, m10, m11, m12, m13, m14, m15]), .box 117 (List.map I32 (rroundL [m0, m1, m2, m3, m4, m5, m6, m7, m8, m9, m10, m11, m12, m13, m14, m15] 2 [v0, v1, v2, v3, v4, v5, v6, v7, v8, v9, v10, v11, v12, v13, v14, v15])), .box 140 ((orderN.getD 2 []).map fun (n : Nat) => I64 n)]) := by kernel_rfl
theorem rmixR3 (n : Nat) (h0 h1 h2 h3 h4 h5 h6 h7 m0 m1 m2 m3 m4 m5 m6 m7 m8 m9 m10 m11 m12 m13 m14 m15 v0 v1 v2 v3 v4 v5 v6 v7 v8 v9 v10 v11 v12 v13 v14 v15 : Int) : rlb (fun _ k body => loopN k body (n + 20)) 16 (renvC 3) [.box 82 (List.map I32 [h0, h1, h2, h3, h4, h5, h6, h7]), .box 82 zD, .box 117 (List.map I32 [m0, m1, m2, m3, m4, m5, m6, m7, m8, m9, m10, m11, m12, m13, m14, m15]), .box 117 (List.map I32 [v0, v1, v2, v3, v4, v5, v6, v7, v8, v9, v10, v11, v12, v13, v14, v15])] =
    some (.normal, renvC 4, [.box 82 (List.map I32 [h0, h1, h2, h3, h4, h5, h6, h7]), .box 82 zD, .box 117 (List.map I32 [m0, m1, m2, m3, m4, m5, m6, m7, m8, m9, m10, m11, m12, m13, m14, m15]), .box 117 (List.map I32 (rroundL [m0, m1, m2, m3, m4, m5, m6, m7, m8, m9, m10, m11, m12, m13, m14, m15] 3 [v0, v1, v2, v3, v4, v5, v6, v7, v8, v9, v10, v11, v12, v13, v14, v15])), .box 140 ((orderN.getD 3 []).map fun (n : Nat) => I64 n)]) := by kernel_rfl
theorem rmixR4 (n : Nat) (h0 h1 h2 h3 h4 h5 h6 h7 m0 m1 m2 m3 m4 m5 m6 m7 m8 m9 m10 m11 m12 m13 m14 m15 v0 v1 v2 v3 v4 v5 v6 v7 v8 v9 v10 v11 v12 v13 v14 v15 : Int) : rlb (fun _ k body => loopN k body (n + 20)) 16 (renvC 4) [.box 82 (List.map I32 [h0, h1, h2, h3, h4, h5, h6, h7]), .box 82 zD, .box 117 (List.map I32 [m0, m1, m2, m3, m4, m5, m6, m7, m8, m9, m10, m11, m12, m13, m14, m15]), .box 117 (List.map I32 [v0, v1, v2, v3, v4, v5, v6, v7, v8, v9, v10, v11, v12, v13, v14, v15])] =
    some (.normal, renvC 5, [.box 82 (List.map I32 [h0, h1, h2, h3, h4, h5, h6, h7]), .box 82 zD, .box 117 (List.map I32 [m0, m1, m2, m3, m4, m5, m6, m7, m8, m9, m10, m11, m12, m13, m14, m15]), .box 117 (List.map I32 (rroundL [m0, m1, m2, m3, m4, m5, m6, m7, m8, m9, m10, m11, m12, m13, m14, m15] 4 [v0, v1, v2, v3, v4, v5, v6, v7, v8, v9, v10, v11, v12, v13, v14, v15])), .box 140 ((orderN.getD 4 []).map fun (n : Nat) => I64 n)]) := by kernel_rfl
theorem rmixR5 (n : Nat) (h0 h1 h2 h3 h4 h5 h6 h7 m0 m1 m2 m3 m4 m5 m6 m7 m8 m9 m10 m11 m12 m13 m14 m15 v0 v1 v2 v3 v4 v5 v6 v7 v8 v9 v10 v11 v12 v13 v14 v15 : Int) : rlb (fun _ k body => loopN k body (n + 20)) 16 (renvC 5) [.box 82 (List.map I32 [h0, h1, h2, h3, h4, h5, h6, h7]), .box 82 zD, .box 117 (List.map I32 [m0, m1, m2, m3, m4, m5, m6, m7, m8, m9, m10, m11, m12, m13, m14, m15]), .box 117 (List.map I32 [v0, v1, v2, v3, v4, v5, v6, v7, v8, v9, v10, v11, v12, v13, v14, v15])] =
    some (.normal, renvC 6, [.box 82 (List.map I32 [h0, h1, h2, h3, h4, h5, h6, h7]), .box 82 zD, .box 117 (List.map I32 [m0, m1, m2, m3, m4, m5, m6, m7, m8, m9, m10, m11, m12, m13, m14, m15]), .box 117 (List.map I32 (rroundL [m0, m1, m2, m3, m4, m5, m6, m7, m8, m9, m10, m11, m12, m13, m14, m15] 5 [v0, v1, v2, v3, v4, v5, v6, v7, v8, v9, v10, v11, v12, v13, v14, v15])), .box 140 ((orderN.getD 5 []).map fun (n : Nat) => I64 n)]) := by kernel_rfl
theorem rmixR6 (n : Nat) (h0 h1 h2 h3 h4 h5 h6 h7 m0 m1 m2 m3 m4 m5 m6 m7 m8 m9 m10 m11 m12 m13 m14 m15 v0 v1 v2 v3 v4 v5 v6 v7 v8 v9 v10 v11 v12 v13 v14 v15 : Int) : rlb (fun _ k body => loopN k body (n + 20)) 16 (renvC 6) [.box 82 (List.map I32 [h0, h1, h2, h3, h4, h5, h6, h7]), .box 82 zD, .box 117 (List.map I32 [m0, m1, m2, m3, m4, m5, m6, m7, m8, m9, m10, m11, m12, m13, m14, m15]), .box 117 (List.map I32 [v0, v1, v2, v3, v4, v5, v6, v7, v8, v9, v10, v11, v12, v13, v14, v15])] =
    some (.normal, renvC 7, [.box 82 (List.map I32 [h0, h1, h2, h3, h4, h5, h6, h7]), .box 82 zD, .box 117 (List.map I32 [m0, m1, m2, m3, m4, m5, m6, m7, m8, m9, m10, m11, m12, m13, m14, m15]), .box 117 (List.map I32 (rroundL [m0, m1, m2, m3, m4, m5, m6, m7, m8, m9, m10, m11, m12, m13, m14, m15] 6 [v0, v1, v2, v3, v4, v5, v6, v7, v8, v9, v10, v11, v12, v13, v14, v15])), .box 140 ((orderN.getD 6 []).map fun (n : Nat) => I64 n)]) := by kernel_rfl
theorem rmixR7 (n : Nat) (h0 h1 h2 h3 h4 h5 h6 h7 m0 m1 m2 m3 m4 m5 m6 m7 m8 m9 m10 m11 m12 m13 m14 m15 v0 v1 v2 v3 v4 v5 v6 v7 v8 v9 v10 v11 v12 v13 v14 v15 : Int) : rlb (fun _ k body => loopN k body (n + 20)) 16 (renvC 7) [.box 82 (List.map I32 [h0, h1, h2, h3, h4, h5, h6, h7]), .box 82 zD, .box 117 (List.map I32 [m0, m1, m2, m3, m4, m5, m6, m7, m8, m9, m10, m11, m12, m13, m14, m15]), .box 117 (List.map I32 [v0, v1, v2, v3, v4, v5, v6, v7, v8, v9, v10, v11, v12, v13, v14, v15])] =
    some (.normal, renvC 8, [.box 82 (List.map I32 [h0, h1, h2, h3, h4, h5, h6, h7]), .box 82 zD, .box 117 (List.map I32 [m0, m1, m2, m3, m4, m5, m6, m7, m8, m9, m10, m11, m12, m13, m14, m15]), .box 117 (List.map I32 (rroundL [m0, m1, m2, m3, m4, m5, m6, m7, m8, m9, m10, m11, m12, m13, m14, m15] 7 [v0, v1, v2, v3, v4, v5, v6, v7, v8, v9, v10, v11, v12, v13, v14, v15])), .box 140 ((orderN.getD 7 []).map fun (n : Nat) => I64 n)]) := by kernel_rfl
theorem rmixR8 (n : Nat) (h0 h1 h2 h3 h4 h5 h6 h7 m0 m1 m2 m3 m4 m5 m6 m7 m8 m9 m10 m11 m12 m13 m14 m15 v0 v1 v2 v3 v4 v5 v6 v7 v8 v9 v10 v11 v12 v13 v14 v15 : Int) : rlb (fun _ k body => loopN k body (n + 20)) 16 (renvC 8) [.box 82 (List.map I32 [h0, h1, h2, h3, h4, h5, h6, h7]), .box 82 zD, .box 117 (List.map I32 [m0, m1, m2, m3, m4, m5, m6, m7, m8, m9, m10, m11, m12, m13, m14, m15]), .box 117 (List.map I32 [v0, v1, v2, v3, v4, v5, v6, v7, v8, v9, v10, v11, v12, v13, v14, v15])] =
    some (.normal, renvC 9, [.box 82 (List.map I32 [h0, h1, h2, h3, h4, h5, h6, h7]), .box 82 zD, .box 117 (List.map I32 [m0, m1, m2, m3, m4, m5, m6, m7, m8, m9, m10, m11, m12, m13, m14, m15]), .box 117 (List.map I32 (rroundL [m0, m1, m2, m3, m4, m5, m6, m7, m8, m9, m10, m11, m12, m13, m14, m15] 8 [v0, v1, v2, v3, v4, v5, v6, v7, v8, v9, v10, v11, v12, v13, v14, v15])), .box 140 ((orderN.getD 8 []).map fun (n : Nat) => I64 n)]) := by kernel_rfl
theorem rmixR9 (n : Nat) (h0 h1 h2 h3 h4 h5 h6 h7 m0 m1 m2 m3 m4 m5 m6 m7 m8 m9 m10 m11 m12 m13 m14 m15 v0 v1 v2 v3 v4 v5 v6 v7 v8 v9 v10 v11 v12 v13 v14 v15 : Int) : rlb (fun _ k body => loopN k body (n + 20)) 16 (renvC 9) [.box 82 (List.map I32 [h0, h1, h2, h3, h4, h5, h6, h7]), .box 82 zD, .box 117 (List.map I32 [m0, m1, m2, m3, m4, m5, m6, m7, m8, m9, m10, m11, m12, m13, m14, m15]), .box 117 (List.map I32 [v0, v1, v2, v3, v4, v5, v6, v7, v8, v9, v10, v11, v12, v13, v14, v15])] =
    some (.normal, renvC 10, [.box 82 (List.map I32 [h0, h1, h2, h3, h4, h5, h6, h7]), .box 82 zD, .box 117 (List.map I32 [m0, m1, m2, m3, m4, m5, m6, m7, m8, m9, m10, m11, m12, m13, m14, m15]), .box 117 (List.map I32 (rroundL [m0, m1, m2, m3, m4, m5, m6, m7, m8, m9, m10, m11, m12, m13, m14, m15] 9 [v0, v1, v2, v3, v4, v5, v6, v7, v8, v9, v10, v11, v12, v13, v14, v15])), .box 140 ((orderN.getD 9 []).map fun (n : Nat) => I64 n)]) := by kernel_rfl
theorem rmixR10 (lp : Looper) (h0 h1 h2 h3 h4 h5 h6 h7 m0 m1 m2 m3 m4 m5 m6 m7 m8 m9 m10 m11 m12 m13 m14 m15 v0 v1 v2 v3 v4 v5 v6 v7 v8 v9 v10 v11 v12 v13 v14 v15 : Int) : rlb lp 16 (renvC 10) [.box 82 (List.map I32 [h0, h1, h2, h3, h4, h5, h6, h7]), .box 82 zD, .box 117 (List.map I32 [m0, m1, m2, m3, m4, m5, m6, m7, m8, m9, m10, m11, m12, m13, m14, m15]), .box 117 (List.map I32 [v0, v1, v2, v3, v4, v5, v6, v7, v8, v9, v10, v11, v12, v13, v14, v15])] = some (.exit 4, renvC 10, [.box 82 (List.map I32 [h0, h1, h2, h3, h4, h5, h6, h7]), .box 82 zD, .box 117 (List.map I32 [m0, m1, m2, m3, m4, m5, m6, m7, m8, m9, m10, m11, m12, m13, m14, m15]), .box 117 (List.map I32 [v0, v1, v2, v3, v4, v5, v6, v7, v8, v9, v10, v11, v12, v13, v14, v15])]) := by kernel_rfl
theorem rheadC0 (r : Int) (h0 h1 h2 h3 h4 h5 h6 h7 m0 m1 m2 m3 m4 m5 m6 m7 m8 m9 m10 m11 m12 m13 m14 m15 v0 v1 v2 v3 v4 v5 v6 v7 v8 v9 v10 v11 v12 v13 v14 v15 : Int) : head 0 (renvC r) [.box 82 (List.map I32 [h0, h1, h2, h3, h4, h5, h6, h7]), .box 82 zD, .box 117 (List.map I32 [m0, m1, m2, m3, m4, m5, m6, m7, m8, m9, m10, m11, m12, m13, m14, m15]), .box 117 (List.map I32 [v0, v1, v2, v3, v4, v5, v6, v7, v8, v9, v10, v11, v12, v13, v14, v15])] = some (renvC r, [.box 82 (List.map I32 [h0, h1, h2, h3, h4, h5, h6, h7]), .box 82 zD, .box 117 (List.map I32 [m0, m1, m2, m3, m4, m5, m6, m7, m8, m9, m10, m11, m12, m13, m14, m15]), .box 117 (List.map I32 [v0, v1, v2, v3, v4, v5, v6, v7, v8, v9, v10, v11, v12, v13, v14, v15])]) := by kernel_rfl
theorem rheadC1 (r : Int) (x : Row) (h0 h1 h2 h3 h4 h5 h6 h7 m0 m1 m2 m3 m4 m5 m6 m7 m8 m9 m10 m11 m12 m13 m14 m15 v0 v1 v2 v3 v4 v5 v6 v7 v8 v9 v10 v11 v12 v13 v14 v15 : Int) : head 0 (renvC r) [.box 82 (List.map I32 [h0, h1, h2, h3, h4, h5, h6, h7]), .box 82 zD, .box 117 (List.map I32 [m0, m1, m2, m3, m4, m5, m6, m7, m8, m9, m10, m11, m12, m13, m14, m15]), .box 117 (List.map I32 [v0, v1, v2, v3, v4, v5, v6, v7, v8, v9, v10, v11, v12, v13, v14, v15]), x] = some (renvC r, [.box 82 (List.map I32 [h0, h1, h2, h3, h4, h5, h6, h7]), .box 82 zD, .box 117 (List.map I32 [m0, m1, m2, m3, m4, m5, m6, m7, m8, m9, m10, m11, m12, m13, m14, m15]), .box 117 (List.map I32 [v0, v1, v2, v3, v4, v5, v6, v7, v8, v9, v10, v11, v12, v13, v14, v15])]) := by kernel_rfl
end Go.Ab

/- What the reference's block computes, joined: the same as book.block. -/
namespace Go.Ab
open Go
set_option maxRecDepth 100000
/-! ### The two ways to rotate -/
theorem rrot16 (x : Int) : rrot x 16 = rotr32 x 16 := by
  have e1 : (sh32 (IntKind.i64.wrap (-16))).toNat = 16 := by decide +kernel
  have e2 : (IntKind.u64.wrap (32 - sh32 (IntKind.i64.wrap (-16)))).toNat = 16 := by decide +kernel
  unfold rrot rotr32 rotl32 or32 shl32
  rw [e1, e2, BitVec.or_comm]
theorem rrot12 (x : Int) : rrot x 12 = rotr32 x 12 := by
  have e1 : (sh32 (IntKind.i64.wrap (-12))).toNat = 20 := by decide +kernel
  have e2 : (IntKind.u64.wrap (32 - sh32 (IntKind.i64.wrap (-12)))).toNat = 12 := by decide +kernel
  unfold rrot rotr32 rotl32 or32 shl32
  rw [e1, e2, BitVec.or_comm]
theorem rrot8 (x : Int) : rrot x 8 = rotr32 x 8 := by
  have e1 : (sh32 (IntKind.i64.wrap (-8))).toNat = 24 := by decide +kernel
  have e2 : (IntKind.u64.wrap (32 - sh32 (IntKind.i64.wrap (-8)))).toNat = 8 := by decide +kernel
  unfold rrot rotr32 rotl32 or32 shl32
  rw [e1, e2, BitVec.or_comm]
theorem rrot7 (x : Int) : rrot x 7 = rotr32 x 7 := by
  have e1 : (sh32 (IntKind.i64.wrap (-7))).toNat = 25 := by decide +kernel
  have e2 : (IntKind.u64.wrap (32 - sh32 (IntKind.i64.wrap (-7)))).toNat = 7 := by decide +kernel
  unfold rrot rotr32 rotl32 or32 shl32
  rw [e1, e2, BitVec.or_comm]
theorem rmix4_eq (x y a b c d : Int) : rmix4 x y a b c d = mix4 x y a b c d := by
  unfold rmix4 mix4 rD gD
  simp only [rrot16, rrot12, rrot8, rrot7]
theorem rmixL_eq (q : List Nat) (x y : Int) (v : List Int) : rmixL q x y v = mixL q x y v := by
  unfold rmixL mixL
  rw [rmix4_eq]
theorem rroundGo_eq (m : List Int) : ∀ (qs : List (List Nat)) (s : List Nat) (v : List Int), rroundGo m qs s v = roundGo m qs s v
  | [], _, _ => rfl
  | q :: qs, [], v => rfl
  | q :: qs, [a], v => rfl
  | q :: qs, a :: b :: s, v => by rw [rroundGo, roundGo, rroundGo_eq m qs, rmixL_eq]
theorem rroundL_eq (m : List Int) (r : Nat) (v : List Int) : rroundL m r v = roundL m r v := rroundGo_eq _ _ _ _
theorem rroundL_len (m : List Int) (r : Nat) (v : List Int) : (rroundL m r v).length = v.length := by rw [rroundL_eq, roundL_len]
def rrounds (m : List Int) (v : List Int) : List Int := rroundL m 9 (rroundL m 8 (rroundL m 7 (rroundL m 6 (rroundL m 5 (rroundL m 4 (rroundL m 3 (rroundL m 2 (rroundL m 1 (rroundL m 0 v)))))))))
theorem rrounds_eq (m v : List Int) : rrounds m v = rounds m v := by
  unfold rrounds rounds
  simp only [rroundL_eq]
abbrev zRow : Row := .box 117 (List.replicate 16 (I32 0))

/-- The bytes are read. -/
theorem rloopA (lp : Looper) (s : ByteArray) (hs : s.size ≤ 64) (e : Int) (l : Bool) {h : List Int} (hh : h.length = 8) : ∀ (k i n : Nat) (m : List Int), i + k = s.size → m.length = 16 →
    loopN 0 (rlb lp 3) (n + k + 1) (renvA s e l (i : Nat)) [rB h, .box 82 zD, rM m, zRow] = some (.exit 0, renvA s e l (s.size : Nat), [rB h, .box 82 zD, rM (mGo (s.toList.drop i) i m), zRow]) := by
  intro k
  induction k with
  | zero =>
    intro i n m hi hm
    obtain ⟨h0, h1, h2, h3, h4, h5, h6, h7, rfl⟩ := len8 hh
    have hd : s.toList.drop i = [] := by
      apply List.drop_eq_nil_of_le
      rw [Lib.toList_data]
      have : s.data.size = s.size := rfl
      simp
      omega
    rw [hd]
    simp only [mGo]
    obtain ⟨m0, m1, m2, m3, m4, m5, m6, m7, m8, m9, m10, m11, m12, m13, m14, m15, rfl⟩ := len16 hm
    simp only [loopN, rheadA, Option.bind_some]
    have hi' : i = s.size := by omega
    subst hi'
    rcases Nat.lt_or_ge s.size 64 with h64 | h64
    · rw [rbytA lp s e l _ _ _ _ _ _ _ _ _ _ _ _ _ _ _ _ _ _ _ _ _ _ _ _ s.size h64]
      simp [onEx]
    · have h64 : s.size = 64 := by omega
      have := rbytA64 lp s e l h0 h1 h2 h3 h4 h5 h6 h7 m0 m1 m2 m3 m4 m5 m6 m7 m8 m9 m10 m11 m12 m13 m14 m15
      rw [h64] at this ⊢
      erw [this]
      simp [onEx]
  | succ k ih =>
    intro i n m hi hm
    have hlt : i < s.toList.length := by
      rw [Lib.toList_data]
      have : s.data.size = s.size := rfl
      simp
      omega
    have hd : s.toList.drop i = s.toList[i] :: s.toList.drop (i + 1) := List.drop_eq_getElem_cons hlt
    rw [hd]
    simp only [mGo]
    have ih' := ih (i + 1) n (putByte i s.toList[i] m) (by omega) (by rw [putByte_len]; exact hm)
    rw [← ih']
    obtain ⟨h0, h1, h2, h3, h4, h5, h6, h7, rfl⟩ := len8 hh
    obtain ⟨m0, m1, m2, m3, m4, m5, m6, m7, m8, m9, m10, m11, m12, m13, m14, m15, rfl⟩ := len16 hm
    rw [show n + (k + 1) + 1 = (n + k + 1) + 1 from rfl, loopN]
    simp only [rheadA, Option.bind_some]
    rw [rbytA lp s e l _ _ _ _ _ _ _ _ _ _ _ _ _ _ _ _ _ _ _ _ _ _ _ _ i (by omega)]
    have hdec : decide (((i : Nat) : Int) < (s.size : Int)) = true := by simp; omega
    rw [hdec, cond_true, List.getElem?_eq_getElem hlt]
    simp only [Option.bind_some, onEx]

theorem rloopC (n : Nat) {h m v : List Int} (hh : h.length = 8) (hm : m.length = 16) (hv : v.length = 16) :
    loopN 0 (rlb (fun _ k body => loopN k body (n + 20)) 16) (n + 20) (renvC 0) [rB h, .box 82 zD, rM m, rM v, .box 82 fst82] = some (.exit 4, renvC 10, [rB h, .box 82 zD, rM m, rM (rrounds m v)]) := by
  obtain ⟨h0, h1, h2, h3, h4, h5, h6, h7, rfl⟩ := len8 hh
  obtain ⟨m0, m1, m2, m3, m4, m5, m6, m7, m8, m9, m10, m11, m12, m13, m14, m15, rfl⟩ := len16 hm
  have first : ∀ (v : List Int) (k : Nat) (hv : v.length = 16) (o : Option Out), (∀ v0 v1 v2 v3 v4 v5 v6 v7 v8 v9 v10 v11 v12 v13 v14 v15, v = [v0, v1, v2, v3, v4, v5, v6, v7, v8, v9, v10, v11, v12, v13, v14, v15] → loopN 0 (rlb (fun _ k body => loopN k body (n + 20)) 16) k (renvC 0) [rB [h0, h1, h2, h3, h4, h5, h6, h7], .box 82 zD, rM [m0, m1, m2, m3, m4, m5, m6, m7, m8, m9, m10, m11, m12, m13, m14, m15], rM v] = o) → loopN 0 (rlb (fun _ k body => loopN k body (n + 20)) 16) k (renvC 0) [rB [h0, h1, h2, h3, h4, h5, h6, h7], .box 82 zD, rM [m0, m1, m2, m3, m4, m5, m6, m7, m8, m9, m10, m11, m12, m13, m14, m15], rM v] = o := by
    intro v k hv o hk
    obtain ⟨v0, v1, v2, v3, v4, v5, v6, v7, v8, v9, v10, v11, v12, v13, v14, v15, rfl⟩ := len16 hv
    exact hk _ _ _ _ _ _ _ _ _ _ _ _ _ _ _ _ rfl
  clear first
  generalize hM : ([m0, m1, m2, m3, m4, m5, m6, m7, m8, m9, m10, m11, m12, m13, m14, m15] : List Int) = M
  have step : ∀ (r : Nat) (k : Nat) (v : List Int), v.length = 16 → r < 10 → ∀ (σ : Sto), (head 0 (renvC (r : Nat)) σ = some (renvC (r : Nat), [rB [h0, h1, h2, h3, h4, h5, h6, h7], .box 82 zD, rM M, rM v])) →
      ∃ x, loopN 0 (rlb (fun _ k body => loopN k body (n + 20)) 16) (k + 1) (renvC (r : Nat)) σ = loopN 0 (rlb (fun _ k body => loopN k body (n + 20)) 16) k (renvC ((r + 1 : Nat) : Int)) [rB [h0, h1, h2, h3, h4, h5, h6, h7], .box 82 zD, rM M, rM (rroundL M r v), x] := by
    intro r k v hv hr σ hσ
    subst hM
    obtain ⟨v0, v1, v2, v3, v4, v5, v6, v7, v8, v9, v10, v11, v12, v13, v14, v15, rfl⟩ := len16 hv
    refine ⟨.box 140 ((orderN.getD r []).map fun (n : Nat) => I64 n), ?_⟩
    rw [loopN, hσ]
    simp only [Option.bind_some]
    have : rlb (fun _ k body => loopN k body (n + 20)) 16 (renvC (r : Nat)) [rB [h0, h1, h2, h3, h4, h5, h6, h7], .box 82 zD, rM [m0, m1, m2, m3, m4, m5, m6, m7, m8, m9, m10, m11, m12, m13, m14, m15], rM [v0, v1, v2, v3, v4, v5, v6, v7, v8, v9, v10, v11, v12, v13, v14, v15]] =
        some (.normal, renvC ((r + 1 : Nat) : Int), [rB [h0, h1, h2, h3, h4, h5, h6, h7], .box 82 zD, rM [m0, m1, m2, m3, m4, m5, m6, m7, m8, m9, m10, m11, m12, m13, m14, m15], rM (rroundL [m0, m1, m2, m3, m4, m5, m6, m7, m8, m9, m10, m11, m12, m13, m14, m15] r [v0, v1, v2, v3, v4, v5, v6, v7, v8, v9, v10, v11, v12, v13, v14, v15]), .box 140 ((orderN.getD r []).map fun (n : Nat) => I64 n)]) := by
      match r, hr with
      | 0, _ => exact rmixR0 _ _ _ _ _ _ _ _ _ _ _ _ _ _ _ _ _ _ _ _ _ _ _ _ _ _ _ _ _ _ _ _ _ _ _ _ _ _ _ _ _
      | 1, _ => exact rmixR1 _ _ _ _ _ _ _ _ _ _ _ _ _ _ _ _ _ _ _ _ _ _ _ _ _ _ _ _ _ _ _ _ _ _ _ _ _ _ _ _ _
      | 2, _ => exact rmixR2 _ _ _ _ _ _ _ _ _ _ _ _ _ _ _ _ _ _ _ _ _ _ _ _ _ _ _ _ _ _ _ _ _ _ _ _ _ _ _ _ _
      | 3, _ => exact rmixR3 _ _ _ _ _ _ _ _ _ _ _ _ _ _ _ _ _ _ _ _ _ _ _ _ _ _ _ _ _ _ _ _ _ _ _ _ _ _ _ _ _
      | 4, _ => exact rmixR4 _ _ _ _ _ _ _ _ _ _ _ _ _ _ _ _ _ _ _ _ _ _ _ _ _ _ _ _ _ _ _ _ _ _ _ _ _ _ _ _ _
      | 5, _ => exact rmixR5 _ _ _ _ _ _ _ _ _ _ _ _ _ _ _ _ _ _ _ _ _ _ _ _ _ _ _ _ _ _ _ _ _ _ _ _ _ _ _ _ _
      | 6, _ => exact rmixR6 _ _ _ _ _ _ _ _ _ _ _ _ _ _ _ _ _ _ _ _ _ _ _ _ _ _ _ _ _ _ _ _ _ _ _ _ _ _ _ _ _
      | 7, _ => exact rmixR7 _ _ _ _ _ _ _ _ _ _ _ _ _ _ _ _ _ _ _ _ _ _ _ _ _ _ _ _ _ _ _ _ _ _ _ _ _ _ _ _ _
      | 8, _ => exact rmixR8 _ _ _ _ _ _ _ _ _ _ _ _ _ _ _ _ _ _ _ _ _ _ _ _ _ _ _ _ _ _ _ _ _ _ _ _ _ _ _ _ _
      | 9, _ => exact rmixR9 _ _ _ _ _ _ _ _ _ _ _ _ _ _ _ _ _ _ _ _ _ _ _ _ _ _ _ _ _ _ _ _ _ _ _ _ _ _ _ _ _
    rw [this]
    simp only [Option.bind_some, onEx]
  have hd0 : ∀ (r : Nat) (v : List Int), v.length = 16 → head 0 (renvC (r : Nat)) [rB [h0, h1, h2, h3, h4, h5, h6, h7], .box 82 zD, rM M, rM v] = some (renvC (r : Nat), [rB [h0, h1, h2, h3, h4, h5, h6, h7], .box 82 zD, rM M, rM v]) := by
    intro r v hv
    subst hM
    obtain ⟨v0, v1, v2, v3, v4, v5, v6, v7, v8, v9, v10, v11, v12, v13, v14, v15, rfl⟩ := len16 hv
    exact rheadC0 _ _ _ _ _ _ _ _ _ _ _ _ _ _ _ _ _ _ _ _ _ _ _ _ _ _ _ _ _ _ _ _ _ _ _ _ _ _ _ _ _
  have hd1 : ∀ (r : Nat) (x : Row) (v : List Int), v.length = 16 → head 0 (renvC (r : Nat)) [rB [h0, h1, h2, h3, h4, h5, h6, h7], .box 82 zD, rM M, rM v, x] = some (renvC (r : Nat), [rB [h0, h1, h2, h3, h4, h5, h6, h7], .box 82 zD, rM M, rM v]) := by
    intro r x v hv
    subst hM
    obtain ⟨v0, v1, v2, v3, v4, v5, v6, v7, v8, v9, v10, v11, v12, v13, v14, v15, rfl⟩ := len16 hv
    exact rheadC1 _ _ _ _ _ _ _ _ _ _ _ _ _ _ _ _ _ _ _ _ _ _ _ _ _ _ _ _ _ _ _ _ _ _ _ _ _ _ _ _ _ _
  have l0 := hv
  obtain ⟨x0, e0⟩ := step 0 (n + 19) v l0 (by omega) _ (hd1 0 (.box 82 fst82) v l0)
  have l1 : (rroundL M 0 v).length = 16 := by rw [rroundL_len]; exact l0
  obtain ⟨x1, e1⟩ := step 1 (n + 18) _ l1 (by omega) _ (hd1 1 x0 _ l1)
  have l2 : (rroundL M 1 (rroundL M 0 v)).length = 16 := by rw [rroundL_len]; exact l1
  obtain ⟨x2, e2⟩ := step 2 (n + 17) _ l2 (by omega) _ (hd1 2 x1 _ l2)
  have l3 := (rroundL_len M 2 _).trans l2
  obtain ⟨x3, e3⟩ := step 3 (n + 16) _ l3 (by omega) _ (hd1 3 x2 _ l3)
  have l4 := (rroundL_len M 3 _).trans l3
  obtain ⟨x4, e4⟩ := step 4 (n + 15) _ l4 (by omega) _ (hd1 4 x3 _ l4)
  have l5 := (rroundL_len M 4 _).trans l4
  obtain ⟨x5, e5⟩ := step 5 (n + 14) _ l5 (by omega) _ (hd1 5 x4 _ l5)
  have l6 := (rroundL_len M 5 _).trans l5
  obtain ⟨x6, e6⟩ := step 6 (n + 13) _ l6 (by omega) _ (hd1 6 x5 _ l6)
  have l7 := (rroundL_len M 6 _).trans l6
  obtain ⟨x7, e7⟩ := step 7 (n + 12) _ l7 (by omega) _ (hd1 7 x6 _ l7)
  have l8 := (rroundL_len M 7 _).trans l7
  obtain ⟨x8, e8⟩ := step 8 (n + 11) _ l8 (by omega) _ (hd1 8 x7 _ l8)
  have l9 := (rroundL_len M 8 _).trans l8
  obtain ⟨x9, e9⟩ := step 9 (n + 10) _ l9 (by omega) _ (hd1 9 x8 _ l9)
  have l10 := (rroundL_len M 9 _).trans l9
  refine e0.trans (e1.trans (e2.trans (e3.trans (e4.trans (e5.trans (e6.trans (e7.trans (e8.trans (e9.trans ?_)))))))))
  have hh := hd1 10 x9 _ l10
  rw [loopN]
  erw [hh]
  simp only [Option.bind_some]
  subst hM
  obtain ⟨v0, v1, v2, v3, v4, v5, v6, v7, v8, v9, v10, v11, v12, v13, v14, v15, hv'⟩ := len16 l10
  simp only [rrounds]
  rw [hv']
  erw [rmixR10]
  simp only [Option.bind_some, onEx]

theorem rblock_ok (n : Nat) {h : List Int} (hh : h.length = 8) (s : ByteArray) (hs : s.size ≤ 64) (e : Int) (l : Bool) :
    evBody MO cR (fun _ k body => loopN k body (n + 65)) 59 [.agg (List.map I32 h), .v (.str s), I64 e, .v (.bool l)] [] = some (.agg (List.map I32 (blkL h s e l)), []) := by
  have hA := rloopA (fun _ k body => loopN k body (n + 65)) s hs e l hh s.size 0 (n + 64 - s.size) (List.replicate 16 0) (by omega) (by simp)
  rw [show n + 64 - s.size + s.size + 1 = n + 65 from by omega] at hA
  obtain ⟨h0, h1, h2, h3, h4, h5, h6, h7, rfl⟩ := len8 hh
  rw [rstepA]
  have e0 : ([.box 82 (List.map I32 [h0, h1, h2, h3, h4, h5, h6, h7]), .box 82 zD, .box 117 (List.replicate 16 (I32 0)), .box 117 (List.replicate 16 (I32 0))] : Sto) = [rB [h0, h1, h2, h3, h4, h5, h6, h7], .box 82 zD, rM (List.replicate 16 0), zRow] := rfl
  rw [e0]
  erw [hA]
  rw [Option.bind_some, List.drop_zero]
  have hml : (mGo s.toList 0 (List.replicate 16 0)).length = 16 := by rw [mGo_len]; simp
  unfold blkL
  rw [← rrounds_eq]
  generalize mGo s.toList 0 (List.replicate 16 0) = M at hml
  obtain ⟨m0, m1, m2, m3, m4, m5, m6, m7, m8, m9, m10, m11, m12, m13, m14, m15, rfl⟩ := len16 hml
  erw [rstepB]
  have hB := rloopB (n + 56) (fun _ k body => loopN k body (n + 65)) e l h0 h1 h2 h3 h4 h5 h6 h7 m0 m1 m2 m3 m4 m5 m6 m7 m8 m9 m10 m11 m12 m13 m14 m15
  rw [show n + 56 + 9 = n + 65 from rfl] at hB
  erw [hB]
  rw [Option.bind_some]
  have hvl : (vOf [h0, h1, h2, h3, h4, h5, h6, h7] e l).length = 16 := by rw [vOf_len]; rfl
  have hC := rloopC (n + 45) hh hml hvl
  rw [show n + 45 + 20 = n + 65 from rfl] at hC
  have hfin : rct (fun _ k body => loopN k body (n + 65)) 16 (.exit 4, renvC 10, [rB [h0, h1, h2, h3, h4, h5, h6, h7], .box 82 zD, rM [m0, m1, m2, m3, m4, m5, m6, m7, m8, m9, m10, m11, m12, m13, m14, m15], rM (rrounds [m0, m1, m2, m3, m4, m5, m6, m7, m8, m9, m10, m11, m12, m13, m14, m15] (vOf [h0, h1, h2, h3, h4, h5, h6, h7] e l))]) =
      some (.agg (List.map I32 (endL [h0, h1, h2, h3, h4, h5, h6, h7] (rrounds [m0, m1, m2, m3, m4, m5, m6, m7, m8, m9, m10, m11, m12, m13, m14, m15] (vOf [h0, h1, h2, h3, h4, h5, h6, h7] e l)))), []) := by
    have hrl : (rrounds [m0, m1, m2, m3, m4, m5, m6, m7, m8, m9, m10, m11, m12, m13, m14, m15] (vOf [h0, h1, h2, h3, h4, h5, h6, h7] e l)).length = 16 := by rw [rrounds_eq, rounds_len]; exact hvl
    generalize rrounds [m0, m1, m2, m3, m4, m5, m6, m7, m8, m9, m10, m11, m12, m13, m14, m15] (vOf [h0, h1, h2, h3, h4, h5, h6, h7] e l) = W at hrl
    obtain ⟨v0, v1, v2, v3, v4, v5, v6, v7, v8, v9, v10, v11, v12, v13, v14, v15, rfl⟩ := len16 hrl
    erw [rstepD]
    have hD := rloopD (n + 56) (fun _ k body => loopN k body (n + 65)) h0 h1 h2 h3 h4 h5 h6 h7 m0 m1 m2 m3 m4 m5 m6 m7 m8 m9 m10 m11 m12 m13 m14 m15 v0 v1 v2 v3 v4 v5 v6 v7 v8 v9 v10 v11 v12 v13 v14 v15
    rw [show n + 56 + 9 = n + 65 from rfl] at hD
    erw [hD]
    rw [Option.bind_some]
    generalize endL [h0, h1, h2, h3, h4, h5, h6, h7] [v0, v1, v2, v3, v4, v5, v6, v7, v8, v9, v10, v11, v12, v13, v14, v15] = H, endL_len [h0, h1, h2, h3, h4, h5, h6, h7] [v0, v1, v2, v3, v4, v5, v6, v7, v8, v9, v10, v11, v12, v13, v14, v15] = hH
    obtain ⟨g0, g1, g2, g3, g4, g5, g6, g7, rfl⟩ := len8 hH
    exact rstepE _ 8 _ _ _ _ _ _ _ _ _ _ _ _ _ _ _ _ _ _ _ _ _ _ _ _
  cases l with
  | true =>
    erw [rstepCt]
    erw [hC]
    rw [Option.bind_some]
    exact hfin
  | false =>
    erw [rstepCf]
    erw [hC]
    rw [Option.bind_some]
    exact hfin

end Go.Ab
