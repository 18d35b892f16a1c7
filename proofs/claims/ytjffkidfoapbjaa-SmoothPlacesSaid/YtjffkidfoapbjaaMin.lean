/- Proved: the lesser of a word above nought and 32. -/
import Derived.Test.YtjffkidfoapbjaaFl
namespace Go.Proofs.Ytjffkidfoapbjaa.Fl
set_option linter.unusedVariables false

theorem read_32 : Ieee.single.read 1107296256 = .number false 8388608 (-18) := by decide

theorem same_32 {neg : Bool} {m : Nat} {i : Int} (h : (Ieee.Datum.number neg m i).order (.number false 8388608 (-18)) = some .eq) (hm : m < 16777216) : neg = false ∧ ((i ≤ -18 → m = 8388608 * 2 ^ (-18 - i).toNat) ∧ (-18 ≤ i → m * 2 ^ (i + 18).toNat = 8388608)) := by
  simp only [Ieee.Datum.order, Option.some.injEq, Std.LawfulEqCmp.compare_eq_iff_eq] at h
  unfold Ieee.signed at h
  simp only [Nat.shiftLeft_eq, Bool.false_eq_true, if_false] at h
  cases neg
  · refine ⟨rfl, fun hi => ?_, fun hi => ?_⟩
    · rw [Int.min_eq_left hi] at h
      simp only [Bool.false_eq_true, if_false, Int.sub_self, Int.toNat_zero, Nat.pow_zero, Nat.mul_one] at h
      exact Int.ofNat.inj h
    · rw [Int.min_eq_right hi] at h
      simp only [Bool.false_eq_true, if_false, Int.sub_self, Int.toNat_zero, Nat.pow_zero, Nat.mul_one] at h
      have h2 := Int.ofNat.inj h
      rw [show i + 18 = i - -18 by omega]
      exact h2
  · exfalso
    simp only [if_true] at h
    have h1 : 0 < 8388608 * 2 ^ (-18 - min i (-18)).toNat := Nat.mul_pos (by decide) (Nat.two_pow_pos _)
    omega
/-- What is equal to 32 is 32. -/
theorem eq_32 {t : Nat} (ht : t < 4294967296) (h : ford t 1107296256 = some .eq) : t = 1107296256 := by
  have e1 : Ieee.single.signWeight = 2147483648 := by decide
  have e2 : Ieee.single.binade = 8388608 := by decide
  have e3 : Ieee.single.infRung = 2139095040 := by decide
  have e4 : Ieee.single.leastPlace = -149 := by decide
  unfold ford Ieee.Format.order at h
  rw [read_32] at h
  unfold Ieee.Format.read at h
  dsimp only at h
  rw [e1, e2, e3, e4] at h
  split at h
  · rename_i h1
    obtain ⟨_, h2, _⟩ := same_32 h (by omega)
    have h3 := h2 (by decide)
    have : (8388608 : Nat) * 2 ^ (-18 - (-149 : Int)).toNat = 8388608 * 2 ^ 131 := rfl
    rw [this] at h3
    have : 8388608 * 1 ≤ 8388608 * 2 ^ 131 := Nat.mul_le_mul_left _ (Nat.two_pow_pos _)
    omega
  · split at h
    · obtain ⟨hn, h2, h3⟩ := same_32 h (by omega)
      have hn' : t / 2147483648 % 2 = 0 := by
        have := beq_eq_false_iff_ne.1 hn
        omega
      generalize hf : t % 2147483648 % 8388608 = f at *
      generalize hE : t % 2147483648 / 8388608 - 1 = E at *
      by_cases c : (-18 : Int) ≤ -149 + (E : Int)
      · have h4 := h3 c
        by_cases c2 : -149 + (E : Int) = -18
        · rw [c2] at h4
          simp at h4
          omega
        · exfalso
          obtain ⟨j, hj⟩ : ∃ j, (-149 + (E : Int) + 18).toNat = j + 1 := ⟨(-149 + (E : Int) + 18).toNat - 1, by omega⟩
          rw [hj, Nat.pow_succ] at h4
          have := Nat.two_pow_pos j
          have : (8388608 + f) * (1 * 2) ≤ (8388608 + f) * (2 ^ j * 2) := Nat.mul_le_mul_left _ (Nat.mul_le_mul_right _ this)
          omega
      · exfalso
        have h4 := h2 (by omega)
        obtain ⟨j, hj⟩ : ∃ j, (-18 - (-149 + (E : Int))).toNat = j + 1 := ⟨(-18 - (-149 + (E : Int))).toNat - 1, by omega⟩
        rw [hj, Nat.pow_succ] at h4
        have := Nat.two_pow_pos j
        have : 8388608 * (1 * 2) ≤ 8388608 * (2 ^ j * 2) := Nat.mul_le_mul_left _ (Nat.mul_le_mul_right _ this)
        omega
    · split at h
      · simp [Ieee.Datum.order] at h
        split at h <;> cases h
      · simp [Ieee.Datum.order] at h

/-- At most 32. -/
def capF (t : Nat) : Nat := if fcmp .gtr t 1107296256 = true then 1107296256 else t
theorem ford_num {x y : Nat} (hx : nan x = false) (hy : nan y = false) : ∃ o, ford x y = some o := by
  unfold nan at hx hy
  unfold ford Ieee.Format.order
  generalize Ieee.single.read x = d at *
  generalize Ieee.single.read y = e at *
  cases d <;> cases e <;> simp [Ieee.Datum.isNaN, Ieee.Datum.order] at *
theorem nan_gtr {t s : Nat} (h : fcmp .gtr t s = true) : nan t = false := by
  cases hn : nan t
  · rfl
  · simp [fcmp, ford_nan_left hn] at h
theorem run_min_32 {P : Program} (w : World) (t : Nat) (ht : t < 4294967296) (hn : nan t = false) : (Builtin.min2 (.float .f32 t) (.float .f32 1107296256)).run P w = .ok (.float .f32 (capF t)) w := by
  obtain ⟨o, ho⟩ := ford_num (y := 1107296256) hn (by kernel_rfl)
  unfold ford at ho
  have hk : FloatKind.f32.format.order t 1107296256 = some o := ho
  cases o
  · simp [Builtin.min2, hk, capF, fcmp, ford, ho]
  · obtain rfl := eq_32 ht ho
    simp [Builtin.min2, hk, capF, fcmp, ford, ho]
  · simp [Builtin.min2, hk, capF, fcmp, ford, ho]
end Go.Proofs.Ytjffkidfoapbjaa.Fl
