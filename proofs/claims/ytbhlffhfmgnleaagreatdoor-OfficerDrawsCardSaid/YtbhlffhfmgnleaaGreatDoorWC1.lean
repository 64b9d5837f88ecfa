/- awake answers true: by the kernel. -/
import Derived.Test.YtbhlffhfmgnleaaGreatDoorWB9
set_option linter.all false
namespace Go.Ab
open Go Go.Proofs
set_option maxRecDepth 100000
theorem sumsB_ok : ∀ p ∈ sumsB, SumFOk PO p.1 p.2 := sumsC o17 (sumsC o18 (sumsC o75 (sumsC o76 (sumsC o12 (sumsC o107 (sumsC o171 (sumsC o172 (sumsC o173 (sumsC o283 (sumsC o284 (sumsC o285 sums0)))))))))))
theorem awake_run : (evT MA sumsB inlA 60 6 [] [] fun d σ => some (d, σ)) = some (.v (.bool true), []) := by kernel_rfl
theorem awake_sem : CallSem PO 6 [] [] (.v (.bool true)) [] := by
  obtain ⟨d, σ', h1, h2⟩ := evT_ok (M := MA) mo_mixed sumsB_ok inlA_ok 60 _ _ _ _ _ _ awake_run
  cases h1
  exact h2
end Go.Ab
