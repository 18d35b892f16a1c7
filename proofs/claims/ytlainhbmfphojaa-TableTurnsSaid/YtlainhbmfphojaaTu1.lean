/- Proved: the walks of last, all, later. -/
import Derived.Test.YtlainhbmfphojaaTk0
namespace Go.Proofs.Ytlainhbmfphojaa.Tb
open Go.RowKit Go.Maps Go.Proofs.YtlainhbmfphojaaW.PrintWords Go.Proofs.YtlainhbmfphojaaW.PrintLast Go.Proofs.YtlainhbmfphojaaW.PrintMore
set_option linter.unusedVariables false
set_option linter.unusedSimpArgs false

/-- The place of the last of the first k that is s; -1: none. -/
def lastI (U : List ByteArray) (s : ByteArray) : Nat → Int
  | 0 => -1
  | k + 1 => if U.getD k ByteArray.empty = s then (k : Int) else lastI U s k
theorem bs_ne {a b : ByteArray} (h : a ≠ b) : (a.toList == b.toList) = false := by
  rw [beq_eq_false_iff_ne]
  intro e
  rw [ByteArray.toList_eq, ByteArray.toList_eq] at e
  apply h
  cases a; cases b
  simp only [ByteArray.mk.injEq]
  exact Array.toList_inj.1 e
theorem lastI_lt (U : List ByteArray) (s : ByteArray) : ∀ k, -1 ≤ lastI U s k ∧ lastI U s k < k
  | 0 => by simp [lastI]
  | k + 1 => by
    have := lastI_lt U s k
    unfold lastI
    split <;> omega
theorem lastI_lt2 (U : List ByteArray) (s : ByteArray) (k : Nat) : lastI U s k ≤ (k : Int) - 1 := by have := lastI_lt U s k; omega
set_option maxHeartbeats 4000000 in
set_option maxRecDepth 100000 in
theorem last_calls (w : World) (A : Option Addr) (c n : Nat) (U : List ByteArray) (s : ByteArray) (hR : RS w A n U) : Calls Try.prog 15 #[.slice A n c, .string s] w fun r w' => r = .returned (.int .i64 (lastI U s n)) ∧ w' = w := by
  have hu22 := Try.underlying22
  have hu9 := Try.underlying9
  have hnn : (n : Int) ≤ 9223372036854775807 := by have := hR.2.1; omega
  have hn0 : (0 : Int) ≤ n := Int.natCast_nonneg n
  go_enter Try.func15, Try.ntmps15
  go_wp2_with fail
  go_loopw [5] (fun i wr => ∃ k : Nat, k ≤ n ∧ i = .int .i64 ((k : Int) - 1) ∧ wr = w ∧ Aside0 (lastI U s n = lastI U s k)) (fun i _ => (intOf i + 1).toNat)
  case atStart => exact ⟨n, Nat.le_refl _, by go_num, rfl, ⟨rfl⟩⟩
  case round =>
    obtain ⟨k, hk, rfl, rfl, HL⟩ := hrel
    cases k with
    | zero =>
      go_wp2_with fail
      go_ret
      exact ⟨by rw [HL.out]; rfl, rfl⟩
    | succ j =>
      have e1 : ((j + 1 : Nat) : Int) - 1 = (j : Int) := by omega
      rw [e1]
      clear e1
      have hj0 : (0 : Int) ≤ j := Int.natCast_nonneg j
      have hj2 : (j : Int) < (n : Int) := by omega
      obtain ⟨ad, t, eA, hx, gs⟩ := hR.at_ j (by omega)
      subst eA
      by_cases he : t = s
      · have HE := Aside0.mk (show lastI U s (j + 1) = (j : Int) by unfold lastI; rw [gs, if_pos he])
        subst he
        clear gs
        go_wp2_with fail
        go_ret
        exact ⟨by rw [HL.out, HE.out]; first | done | rfl, rfl⟩
      · have HE := Aside0.mk (show lastI U s (j + 1) = lastI U s j by conv => lhs; unfold lastI; rw [gs, if_neg he])
        have he2 := bs_ne he
        clear gs
        go_wp2_with fail
        go_roundw
        case rel => exact ⟨j, by omega, by go_num, trivial, ⟨by rw [HL.out, HE.out]⟩⟩
        case measure => first | (simp [intOf]; done) | (simp [intOf]; omega)
set_option maxHeartbeats 4000000 in
set_option maxRecDepth 100000 in
theorem all_calls (w : World) (A B : Option Addr) (c d n m : Nat) (U l : List ByteArray) (hR : RS w A n U) (hS : RS w B m l) (hall : ∀ j, j < n → 0 ≤ lastI l (U.getD j ByteArray.empty) m) : Calls Try.prog 16 #[.slice A n c, .slice B m d] w fun r w' => r = .returned (.bool true) ∧ w' = w := by
  have hu22 := Try.underlying22
  have hu9 := Try.underlying9
  have hnn : (n : Int) ≤ 9223372036854775807 := by have := hR.2.1; omega
  go_enter Try.func16, Try.ntmps16
  go_wp2_with fail
  go_loopw [5] (fun i wr => ∃ k : Nat, k ≤ n ∧ i = .int .i64 k ∧ wr = w) (fun i _ => n - (intOf i).toNat)
  case atStart => exact ⟨0, Nat.zero_le _, rfl, rfl⟩
  case round =>
    obtain ⟨k, hk, rfl, rfl⟩ := hrel
    have hk0 : (0 : Int) ≤ k := Int.natCast_nonneg k
    by_cases hlt : k < n
    · have hk2 : (k : Int) < (n : Int) := Int.ofNat_lt.mpr hlt
      obtain ⟨ad, t, eA, hx, gs⟩ := hR.at_ k hlt
      subst eA
      have ha := hall k hlt
      rw [gs] at ha
      clear gs
      obtain ⟨z, hz⟩ : ∃ z, lastI l t m = z := ⟨_, rfl⟩
      rw [hz] at ha
      have ha2 : ¬ z < 0 := by omega
      go_wp2_with (first
        | (go_at_call 15; refine (last_calls _ B d m l t hS).mono ?_; rintro r w1 ⟨rfl, ew⟩; rw [hz]; subst ew))
      go_roundw
      case rel => exact ⟨k + 1, by omega, by go_num, trivial⟩
      case measure => simp [intOf]; omega
    · obtain rfl : k = n := by omega
      go_wp2_with fail
      go_ret
      exact ⟨rfl, rfl⟩
set_option maxHeartbeats 4000000 in
set_option maxRecDepth 100000 in
theorem later_calls (w : World) (A B : Option Addr) (c d n m : Nat) (U l : List ByteArray) (hR : RS w A n U) (hS : RS w B m l) (hm : 0 < m) (hall : ∀ j : Nat, lastI U (l.getD 0 ByteArray.empty) n < (j : Int) → j < n → 0 ≤ lastI l (U.getD j ByteArray.empty) m) : Calls Try.prog 17 #[.slice A n c, .slice B m d] w fun r w' => r = .returned (.bool true) ∧ w' = w := by
  have hu22 := Try.underlying22
  have hu9 := Try.underlying9
  have hnn : (n : Int) ≤ 9223372036854775807 := by have := hR.2.1; omega
  have hm2 : (0 : Int) < (m : Int) := by omega
  obtain ⟨bd, t0, eB, hx0, gs0⟩ := hS.at_ 0 hm
  have hx0 : w.cell? bd = some (.string t0) := by simpa [Addr.add] using hx0
  rw [gs0] at hall
  subst eB
  obtain ⟨f, hf⟩ : ∃ z, lastI U t0 n = z := ⟨_, rfl⟩
  have hf1 := lastI_lt U t0 n
  rw [hf] at hall hf1
  have hf2 : f ≤ (n : Int) - 1 := by omega
  have hf3 : -1 ≤ f := hf1.1
  clear hf1 gs0
  go_enter Try.func17, Try.ntmps17
  go_wp2_with (first
    | (go_at_call 15; refine (last_calls _ A c n U t0 hR).mono ?_; rintro r w1 ⟨rfl, ew⟩; rw [hf]; have ew := ew.symm; subst ew))
  go_loopw [6] (fun i wr => ∃ k : Nat, k ≤ n ∧ f < (k : Int) ∧ i = .int .i64 k ∧ wr = w) (fun i _ => n - (intOf i).toNat)
  case atStart => exact ⟨(f + 1).toNat, by omega, by omega, by rw [Int.toNat_of_nonneg (by omega)]; first | done | go_num, rfl⟩
  case round =>
    obtain ⟨k, hk, hfk, rfl, rfl⟩ := hrel
    have hk0 : (0 : Int) ≤ k := Int.natCast_nonneg k
    by_cases hlt : k < n
    · have hk2 : (k : Int) < (n : Int) := Int.ofNat_lt.mpr hlt
      obtain ⟨ad, t, eA, hx, gs⟩ := hR.at_ k hlt
      subst eA
      have ha := hall k hfk hlt
      rw [gs] at ha
      clear gs
      obtain ⟨z, hz⟩ : ∃ z, lastI l t m = z := ⟨_, rfl⟩
      rw [hz] at ha
      have ha2 : ¬ z < 0 := by omega
      go_wp2_with (first
        | (go_at_call 15; refine (last_calls _ (some bd) d m l t hS).mono ?_; rintro r w1 ⟨rfl, ew⟩; rw [hz]; subst ew))
      go_roundw
      case rel => exact ⟨k + 1, by omega, by omega, by go_num, trivial⟩
      case measure => simp [intOf]; omega
    · obtain rfl : k = n := by omega
      go_wp2_with fail
      go_ret
      exact ⟨rfl, rfl⟩
end Go.Proofs.Ytlainhbmfphojaa.Tb
