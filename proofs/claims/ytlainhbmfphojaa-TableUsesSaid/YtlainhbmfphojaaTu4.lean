/- Proved: TableUses for every argument. -/
import Derived.Test.YtlainhbmfphojaaTu3
import Derived.Test.YtlainhbmfphojaaTk2
namespace Go.Proofs.Ytlainhbmfphojaa.Tb
open Go.RowKit Go.Maps Go.Proofs.YtlainhbmfphojaaW.PrintWords Go.Proofs.YtlainhbmfphojaaW.PrintLast Go.Proofs.YtlainhbmfphojaaW.PrintMore
set_option linter.unusedVariables false
set_option linter.unusedSimpArgs false

theorem uses.calls (z : Int) (A : Option Addr) (c : Nat) (kl : List ByteArray) (w : World) (HR : RS w A kl.length kl) (hal : ∀ k, k < kl.length → (kl.getD k ByteArray.empty).size ≤ maxLen) : Calls Try.prog 4 #[.int .i64 z, .slice A kl.length c] w fun r w' => r = .returned (.bool true) ∧ Below w.heap.size w w' := by
  by_cases c1 : z < 1 ∨ 4096 < z
  · exact uses_bad z A c kl w c1
  · obtain ⟨m, rfl⟩ := Int.eq_ofNat_of_zero_le (show 0 ≤ z by omega)
    by_cases c2 : 120 < kl.length
    · exact uses_long m A c kl w (by omega) (by omega) c2
    · exact uses_ok m A c kl w (by omega) (by omega) (by omega) HR hal
end Go.Proofs.Ytlainhbmfphojaa.Tb
