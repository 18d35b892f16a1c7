/- Proved: ApiLimits's Lean function answers true. No condition. -/
import Derived.Test.YtnkaipphmkjbnaaPApiLimitsx1
namespace Go.Proofs.Ytnkaipphmkjbnaa.Pure
open Go.RowKit Go.Proofs.Ytnkaipphmkjbnaa.PApiLimits Go.Proofs.YtnkaipphmkjbnaaW.PrintWords Go.Proofs.YtnkaipphmkjbnaaW.PrintLast

/-- YOURS: ∃ k, jousttop_ApiLimits.f k  = some true
What it reaches (each with k first where it has rounds; `.mono`: more rounds tell the same; `.l0`, ..: its loops, with `.mono_l`): jousttop_ApiLimits.f -/
theorem ApiLimits : jousttop_ApiLimits.Pure := by
  exact ⟨60, by kernel_rfl⟩

end Go.Proofs.Ytnkaipphmkjbnaa.Pure
