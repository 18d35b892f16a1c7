/- Proved: the walk of RingFresh, lists of more than 4000 numbers besides. -/
import Derived.Test.YtjajaklichiknaaFresh
namespace Go.Proofs.Ytjajaklichiknaa.Rg
open Go.RowKit Go.Proofs.YtjajaklichiknaaW.PrintWords Go.Proofs.YtjajaklichiknaaW.PrintLast Go.Proofs.YtjajaklichiknaaW.PrintMore
set_option linter.unusedVariables false
set_option linter.unusedSimpArgs false
set_option maxHeartbeats 4000000 in
set_option maxRecDepth 100000 in
theorem fresh_big (w : World) (A : Option Addr) (n cap : Nat) (hl : 4000 < n) (a b : Int) : Calls Try.prog 4 #[.slice A n cap, .int .i64 a, .int .i64 b] w fun e w' => e = .returned (.bool true) ∧ Below w.heap.size w w' := by
  have hB := Below.refl w.heap.size w
  have hll : (4000 : Int) < n := by omega
  go_enter Try.func4, Try.ntmps4
  go_wp2_with (first
    | (go_at_call 8; refine (alive_calls _).mono ?_; rintro e w1 ⟨rfl, hb⟩; have hB := below_step hB hb; clear hb))
  go_ret
  exact ⟨rfl, hB⟩
theorem fresh.calls (A : Option Addr) (cap : Nat) (l : List Int) (a b : Int) (wa : (Lit.int .i64 a).wf = true) (wb : (Lit.int .i64 b).wf = true) (w : World) (HR0 : ReadsOf ei 0 w A l.length l) : Calls Try.prog 4 #[.slice A l.length cap, .int .i64 a, .int .i64 b] w fun e w' => e = .returned (.bool true) ∧ Below w.heap.size w w' := by
  have ha : -9223372036854775808 ≤ a ∧ a ≤ 9223372036854775807 := by
    simp [Lit.wf] at wa
    exact ⟨wa.1, wa.2⟩
  have hb : -9223372036854775808 ≤ b ∧ b ≤ 9223372036854775807 := by
    simp [Lit.wf] at wb
    exact ⟨wb.1, wb.2⟩
  by_cases h : l.length ≤ 4000
  · exact fresh_ok w A cap l h a b ha.1 ha.2 hb.1 hb.2 HR0
  · exact fresh_big w A l.length cap (by omega) a b
end Go.Proofs.Ytjajaklichiknaa.Rg
