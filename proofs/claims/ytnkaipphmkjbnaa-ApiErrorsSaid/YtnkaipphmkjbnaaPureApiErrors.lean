/- Proved: ApiErrors's Lean function answers true. No condition. -/
import Derived.Test.YtnkaipphmkjbnaaPApiErrorsx1
namespace Go.Proofs.Ytnkaipphmkjbnaa.Pure
open Go.RowKit Go.Proofs.Ytnkaipphmkjbnaa.PApiErrors Go.Proofs.YtnkaipphmkjbnaaW.PrintWords Go.Proofs.YtnkaipphmkjbnaaW.PrintLast

/-- YOURS: ∃ k, jousttop_ApiErrors.f k  = some true
What it reaches (each with k first where it has rounds; `.mono`: more rounds tell the same; `.l0`, ..: its loops, with `.mono_l`): jousttop_ApiErrors.f -/
theorem ApiErrors : jousttop_ApiErrors.Pure := by
  exact ⟨60, by kernel_rfl⟩

end Go.Proofs.Ytnkaipphmkjbnaa.Pure
