/- Proved: the walk of the document's Mean. -/
import Derived.Test.YtjffkidfoapbjaaRefMix
import Derived.Test.YtjffkidfoapbjaaOf
namespace Go.Proofs.Ytjffkidfoapbjaa.Fl
open Go.RowKit Go.Proofs.YtjffkidfoapbjaaW.PrintWords Go.Proofs.YtjffkidfoapbjaaW.PrintLast Go.Proofs.YtjffkidfoapbjaaW.PrintMore
set_option linter.unusedVariables false
set_option linter.unusedSimpArgs false

set_option maxHeartbeats 2000000 in
set_option maxRecDepth 100000 in
theorem refmean_calls (A : Option Addr) (cap : Nat) (l : List Nat) (w : World) (hr : FlRow w A l) (hlen : l.length ≤ 9223372036854775807) : Calls Try.prog 16 #[.slice A l.length cap] w fun e w' => ∃ r, Fe r (meanF l) ∧ e = .returned (.float .f32 r) ∧ Drawn0 w w' := by
  have hu3 := Try.underlying3
  have hu22 := Try.underlying22
  by_cases h0 : l.length = 0
  · go_enter Try.func16, Try.ntmps16
    go_wp2_with fail
    go_ret
    exact ⟨0, by simp [meanF, h0, Fe.refl], rfl, Drawn0.refl w⟩
  · have hb : ((l.length : Int) == 0) = false := by
      simp only [beq_eq_false_iff_ne, ne_eq]
      omega
    go_enter Try.func16, Try.ntmps16
    go_wp2_with fail
    go_loopw [3, 4] (fun s i wr => ∃ (k z : Nat), k ≤ l.length ∧ i = .int .i64 k ∧ s = .float .f32 z ∧ Aside0 (Fe z (sumF (l.take k))) ∧ Aside0 (Drawn0 w wr))
      (fun _ i _ => l.length - (intOf i).toNat)
    case atStart => exact ⟨0, 0, Nat.zero_le _, rfl, rfl, ⟨Fe.refl _⟩, ⟨Drawn0.refl w⟩⟩
    case round =>
      obtain ⟨k, z, hk, rfl, rfl, HZ, HD⟩ := hrel
      by_cases hlt : k < l.length
      · obtain ⟨ad, eA, hx⟩ := (hr.drawn HD.out) k hlt
        subst eA
        have hz0 := HZ.out
        have hk2 : (k : Int) < (l.length : Int) := Int.ofNat_lt.mpr hlt
        go_wp2_with (first | (go_at_call 32; refine (plus_calls _ _ _ _ (by first | assumption | exact Fe.refl _) (by first | assumption | exact Fe.refl _) _).mono ?_; rintro e w7 ⟨z1, hz1, rfl, hd⟩))
        go_roundw
        case rel => exact ⟨k + 1, _, by omega, by go_num, rfl, ⟨by rw [sumF_step l k hlt]; assumption⟩, ⟨Drawn0.then HD.out hd⟩⟩
        case measure => simp [intOf]; omega
      · have hke : k = l.length := by omega
        subst hke
        have hz0 := HZ.out
        rw [List.take_length] at hz0
        go_wp2_with (first
      | ((try (refine gate_guard (by rfl) ?_; dsimp only)); refine wpList_fl _ rfl _ _ _ _ _ rfl (by decide) _ _ _ _ rfl rfl (by first | assumption | exact Fe.refl _) (by first | assumption | exact Fe.refl _) ?_; intro z nd hz)
      | ((try (refine gate_guard (by rfl) ?_; dsimp only)); refine wpList_flc _ rfl _ _ _ _ _ rfl (by decide) _ _ _ _ rfl rfl (by first | assumption | exact Fe.refl _) (by first | assumption | exact Fe.refl _) ?_))
        go_ret
        exact ⟨_, by rw [meanF, if_neg h0]; assumption, rfl, HD.out.step _⟩
end Go.Proofs.Ytjffkidfoapbjaa.Fl
