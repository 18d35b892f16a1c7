/- Proved: sums, differences and products of finite words, and their order, by their values; what a fixed number and a place mixed with itself come to. -/
import Derived.Test.YtjffkidfoapbjaaRnd
import Derived.Test.YtjffkidfoapbjaaMix
import Derived.Test.YtjffkidfoapbjaaOf
import Derived.Test.YtjffkidfoapbjaaOne
namespace Go.Proofs.Ytjffkidfoapbjaa.Fl
set_option linter.unusedVariables false
set_option linter.unusedSimpArgs false

/-- z is the finite word nearest to T (in units of 2 ^ -149). -/
structure Rd (z : Nat) (T : Int) : Prop where
  fin : Fin32 z
  rg : rung z = RG 0 T.natAbs
  neg : T < 0 → sgn z = true
  pos : 0 < T → sgn z = false
theorem VAL_pos {r : Nat} (h : 0 < r) : 0 < VAL r := by
  have := VAL_lt h
  omega
theorem VAL_0 : VAL 0 = 0 := rfl
theorem SV_abs (x : Nat) : (SV x).natAbs = VAL (rung x) := by unfold SV; split <;> omega
theorem SV_fin {x : Nat} (h : Fin32 x) : (SV x).natAbs ≤ VAL 2139095039 := by
  rw [SV_abs]
  unfold Fin32 at h
  exact VAL_le (by omega)
theorem RG0_val (r : Nat) : RG 0 (VAL r) = r := by
  have := RG_val 0 r
  rwa [Nat.pow_zero, Nat.mul_one] at this
theorem RG0_0 : RG 0 0 = 0 := rfl
theorem Rd.sv {z : Nat} {T : Int} (h : Rd z T) : SV z = if T < 0 then -(VAL (RG 0 T.natAbs) : Int) else (VAL (RG 0 T.natAbs) : Int) := by
  have hr := h.rg
  unfold SV
  rw [hr]
  rcases Int.lt_trichotomy T 0 with h1 | h1 | h1
  · rw [if_pos (h.neg h1), if_pos h1]
  · subst h1
    have e : RG 0 (Int.natAbs 0) = 0 := rfl
    rw [e, VAL_0]
    split <;> simp
  · rw [if_neg (by rw [h.pos h1]; exact Bool.false_ne_true), if_neg (by omega)]
/-- Rounding keeps to what can be written. -/
theorem Rd.le {z : Nat} {T : Int} (h : Rd z T) {y : Nat} (hT : T ≤ SV y) : SV z ≤ SV y := by
  have e := h.sv
  have hy := SV_abs y
  have hv := RG0_val (rung y)
  by_cases h1 : T < 0
  · rw [if_pos h1] at e
    rcases Int.lt_or_le (SV y) 0 with h2 | h2
    · have h3 : VAL (rung y) ≤ T.natAbs := by omega
      have h4 := RG_mono (c := 0) h3
      rw [hv] at h4
      have := VAL_le h4
      omega
    · omega
  · rw [if_neg h1] at e
    have h3 : T.natAbs ≤ VAL (rung y) := by omega
    have h4 := RG_mono (c := 0) h3
    rw [hv] at h4
    have := VAL_le h4
    omega
theorem Rd.ge {z : Nat} {T : Int} (h : Rd z T) {y : Nat} (hT : SV y ≤ T) : SV y ≤ SV z := by
  have e := h.sv
  have hy := SV_abs y
  have hv := RG0_val (rung y)
  by_cases h1 : T < 0
  · rw [if_pos h1] at e
    have h3 : T.natAbs ≤ VAL (rung y) := by omega
    have h4 := RG_mono (c := 0) h3
    rw [hv] at h4
    have := VAL_le h4
    omega
  · rw [if_neg h1] at e
    rcases Int.lt_or_le (SV y) 0 with h2 | h2
    · omega
    · have h3 : VAL (rung y) ≤ T.natAbs := by omega
      have h4 := RG_mono (c := 0) h3
      rw [hv] at h4
      have := VAL_le h4
      omega
theorem Rd.eq {z : Nat} {T : Int} (h : Rd z T) {y : Nat} (hT : T = SV y) : SV z = SV y := Int.le_antisymm (h.le (by omega)) (h.ge (by omega))
/-- The error, below 2 ^ (24 + k) units. -/
theorem Rd.near {z : Nat} {T : Int} (h : Rd z T) (k : Nat) (hT : T.natAbs < 2 ^ (24 + 0 + k)) : 2 * SV z ≤ 2 * T + (2 ^ k : Nat) ∧ 2 * T ≤ 2 * SV z + (2 ^ k : Nat) := by
  have e := h.sv
  have hn := RG_near (c := 0) (X := T.natAbs) (k := k) hT
  rw [Nat.pow_zero, Nat.mul_one, Nat.add_zero] at hn
  by_cases h1 : T < 0
  · rw [if_pos h1] at e
    omega
  · rw [if_neg h1] at e
    omega
theorem rd_word (neg : Bool) {T : Int} (hT : T.natAbs ≤ VAL 2139095039) (h1 : T < 0 → neg = true) (h2 : 0 < T → neg = false) : Rd (word neg (min (RG 0 T.natAbs) 2139095040)) T := by
  have hr : RG 0 T.natAbs ≤ 2139095039 := RG_up (by rw [Nat.pow_zero, Nat.mul_one]; exact hT)
  rw [Nat.min_eq_left (by omega)]
  have hlt : RG 0 T.natAbs < 2147483648 := by omega
  refine ⟨?_, word_rung neg hlt, fun h => by rw [word_sgn neg hlt]; exact h1 h, fun h => by rw [word_sgn neg hlt]; exact h2 h⟩
  unfold Fin32
  rw [word_rung neg hlt]
  omega
theorem add_rd {x y : Nat} (hx : Fin32 x) (hy : Fin32 y) (hT : (SV x + SV y).natAbs ≤ VAL 2139095039) : Rd (fop .add x y) (SV x + SV y) := by
  obtain ⟨mx, jx, ex, vx⟩ := read_fin hx
  obtain ⟨my, jy, ey, vy⟩ := read_fin hy
  obtain ⟨neg, e, h1, h2, _⟩ := sum_fin (x := x) (y := y) (s := sgn x) (t := sgn y) (mx := mx) (jx := jx) (my := my) (jy := jy)
  rw [← SV_signed vx, ← SV_signed vy] at e h1 h2
  have : fop .add x y = word neg (min (RG 0 (SV x + SV y).natAbs) 2139095040) := by
    unfold fop floatBits
    show (Ieee.single.add x y).getD _ = _
    unfold Ieee.Format.add
    rw [ex, ey, e]
    rfl
  rw [this]
  exact rd_word neg hT h1 h2
theorem signed_not (s : Bool) (m j : Nat) : Ieee.signed (!s) m j = - Ieee.signed s m j := by
  rw [signed_int, signed_int]
  cases s <;> simp
theorem sub_rd {x y : Nat} (hx : Fin32 x) (hy : Fin32 y) (hT : (SV x - SV y).natAbs ≤ VAL 2139095039) : Rd (fop .sub x y) (SV x - SV y) := by
  obtain ⟨mx, jx, ex, vx⟩ := read_fin hx
  obtain ⟨my, jy, ey, vy⟩ := read_fin hy
  obtain ⟨neg, e, h1, h2, _⟩ := sum_fin (x := x) (y := y) (s := sgn x) (t := !sgn y) (mx := mx) (jx := jx) (my := my) (jy := jy)
  rw [signed_not, ← SV_signed vx, ← SV_signed vy, ← Int.sub_eq_add_neg] at e h1 h2
  have : fop .sub x y = word neg (min (RG 0 (SV x - SV y).natAbs) 2139095040) := by
    unfold fop floatBits
    show (Ieee.single.sub x y).getD _ = _
    unfold Ieee.Format.sub
    rw [ex, ey]
    simp only [Ieee.Datum.opposite]
    rw [e]
    rfl
  rw [this]
  exact rd_word neg hT h1 h2
/-- 1, in units. -/
theorem SV_one : SV 1065353216 = 2 ^ 149 := by decide +kernel
/-- A product with what lies from 0 to 1: no greater, of the same sign. -/
theorem mul_unit {x t : Nat} (hx : Fin32 x) (ht : Fin32 t) (h0 : 0 ≤ SV t) (h1 : SV t ≤ 2 ^ 149) : Fin32 (fop .mul x t) ∧ (0 ≤ SV x → 0 ≤ SV (fop .mul x t) ∧ SV (fop .mul x t) ≤ SV x) ∧ (SV x ≤ 0 → SV x ≤ SV (fop .mul x t) ∧ SV (fop .mul x t) ≤ 0) := by
  obtain ⟨mx, jx, ex, vx⟩ := read_fin hx
  obtain ⟨mt, jt, et, vt⟩ := read_fin ht
  have hst : VAL (rung t) = (SV t).natAbs := (SV_abs t).symm
  have hX : mx * mt * 2 ^ (jx + jt) = VAL (rung x) * VAL (rung t) := by
    rw [← vx, ← vt, Nat.pow_add]
    ac_rfl
  have e : fop .mul x t = word (sgn x ^^ sgn t) (min (RG 149 (VAL (rung x) * VAL (rung t))) 2139095040) := by
    unfold fop floatBits
    show (Ieee.single.mul x t).getD _ = _
    unfold Ieee.Format.mul
    rw [ex, et]
    simp only [Ieee.Datum.product, Option.map_some, Ieee.Format.write, Option.getD_some]
    rw [nearest_RG _ _ 149 _ (jx + jt) (by omega), hX]
  have hle : RG 149 (VAL (rung x) * VAL (rung t)) ≤ rung x := RG_up (Nat.mul_le_mul_left _ (by rw [hst]; omega))
  have hf : rung x < 2139095040 := hx
  rw [Nat.min_eq_left (by omega)] at e
  have hlt : RG 149 (VAL (rung x) * VAL (rung t)) < 2147483648 := by omega
  generalize RG 149 (VAL (rung x) * VAL (rung t)) = r at e hle hlt
  have hr : rung (fop .mul x t) = r := by rw [e]; exact word_rung _ hlt
  have hs : sgn (fop .mul x t) = (sgn x ^^ sgn t) := by rw [e]; exact word_sgn _ hlt
  have hv := VAL_le hle
  have hxs : SV x = if sgn x = true then -(VAL (rung x) : Int) else (VAL (rung x) : Int) := rfl
  have hts : SV t = if sgn t = true then -(VAL (rung t) : Int) else (VAL (rung t) : Int) := rfl
  have hz : SV (fop .mul x t) = if (sgn x ^^ sgn t) = true then -(VAL r : Int) else (VAL r : Int) := by
    unfold SV
    rw [hr, hs]
  refine ⟨by unfold Fin32; rw [hr]; omega, ?_⟩
  -- a zero t gives a zero
  have h0r : VAL (rung t) = 0 → r = 0 := fun h => by
    have : r = RG 149 (VAL (rung x) * VAL (rung t)) := by
      have e2 : fop .mul x t = word (sgn x ^^ sgn t) (min (RG 149 (VAL (rung x) * VAL (rung t))) 2139095040) := by
        unfold fop floatBits
        show (Ieee.single.mul x t).getD _ = _
        unfold Ieee.Format.mul
        rw [ex, et]
        simp only [Ieee.Datum.product, Option.map_some, Ieee.Format.write, Option.getD_some]
        rw [nearest_RG _ _ 149 _ (jx + jt) (by omega), hX]
      rw [h, Nat.mul_zero] at e2 ⊢
      have e3 : RG 149 0 = 0 := by simp [RG, eu, rne]
      rw [e3] at e2 ⊢
      rw [← hr, e2]
      exact word_rung _ (by decide)
    rw [this, h, Nat.mul_zero]
    simp [RG, eu, rne]
  have ht0 : sgn t = true → VAL (rung t) = 0 := fun h => by rw [if_pos h] at hts; omega
  cases hsx : sgn x <;> cases hstt : sgn t <;> rw [hsx] at hxs hz <;> rw [hstt] at hz <;> simp only [Bool.xor_false, Bool.false_xor, Bool.xor_true, Bool.true_xor, Bool.not_false, Bool.not_true, if_true, Bool.false_eq_true, if_false] at hxs hz
  · omega
  · have := h0r (ht0 hstt)
    subst this
    rw [VAL_0] at hz
    omega
  · omega
  · have := h0r (ht0 hstt)
    subst this
    rw [VAL_0] at hz
    omega
/-- The order of finite words is that of their values. -/
theorem ford_fin {x y : Nat} (hx : Fin32 x) (hy : Fin32 y) : ford x y = some (compare (SV x) (SV y)) := by
  obtain ⟨mx, jx, ex, vx⟩ := read_fin hx
  obtain ⟨my, jy, ey, vy⟩ := read_fin hy
  unfold ford Ieee.Format.order
  rw [ex, ey]
  simp only [Ieee.Datum.order]
  obtain ⟨b, hb⟩ : ∃ b : Nat, min (-149 + (jx : Int)) (-149 + (jy : Int)) = -149 + (b : Int) := ⟨min jx jy, by omega⟩
  rw [hb, SV_signed vx, SV_signed vy]
  have hx' : jx = (-149 + (jx : Int) - (-149 + (b : Int))).toNat + b := by omega
  have hy' : jy = (-149 + (jy : Int) - (-149 + (b : Int))).toNat + b := by omega
  have e1 : Ieee.signed (sgn x) mx jx = Ieee.signed (sgn x) mx (-149 + (jx : Int) - (-149 + (b : Int))).toNat * 2 ^ b := by rw [← signed_shift]; rw [← hx']
  have e2 : Ieee.signed (sgn y) my jy = Ieee.signed (sgn y) my (-149 + (jy : Int) - (-149 + (b : Int))).toNat * 2 ^ b := by rw [← signed_shift]; rw [← hy']
  rw [e1, e2]
  have hpos : (0 : Int) < 2 ^ b := Int.pow_pos (by decide)
  congr 1
  simp only [compare, compareOfLessAndEq]
  have h1 : ∀ a c : Int, a * 2 ^ b < c * 2 ^ b ↔ a < c := fun a c => Int.mul_lt_mul_right hpos
  have h2 : ∀ a c : Int, a * 2 ^ b = c * 2 ^ b ↔ a = c := fun a c => Int.mul_eq_mul_right_iff (by omega)
  simp only [h1, h2]
theorem cmp_lss {x y : Nat} (hx : Fin32 x) (hy : Fin32 y) : fcmp .lss x y = decide (SV x < SV y) := by
  unfold fcmp
  rw [ford_fin hx hy]
  simp only [compare, compareOfLessAndEq]
  by_cases h : SV x < SV y
  · simp [h]
  · by_cases h2 : SV x = SV y <;> simp [h, h2]
theorem cmp_gtr {x y : Nat} (hx : Fin32 x) (hy : Fin32 y) : fcmp .gtr x y = decide (SV y < SV x) := by
  unfold fcmp
  rw [ford_fin hx hy]
  simp only [compare, compareOfLessAndEq]
  by_cases h : SV x < SV y
  · simp [h]; omega
  · by_cases h2 : SV x = SV y
    · simp [h2]
    · simp [h, h2]; omega
theorem cmp_leq {x y : Nat} (hx : Fin32 x) (hy : Fin32 y) : fcmp .leq x y = decide (SV x ≤ SV y) := by
  unfold fcmp
  rw [ford_fin hx hy]
  simp only [compare, compareOfLessAndEq]
  by_cases h : SV x < SV y
  · simp [h]; omega
  · by_cases h2 : SV x = SV y
    · simp [h2]
    · simp [h, h2]; omega
theorem cmp_geq {x y : Nat} (hx : Fin32 x) (hy : Fin32 y) : fcmp .geq x y = decide (SV y ≤ SV x) := by
  unfold fcmp
  rw [ford_fin hx hy]
  simp only [compare, compareOfLessAndEq]
  by_cases h : SV x < SV y
  · simp [h]
  · by_cases h2 : SV x = SV y
    · simp [h2]
    · simp [h, h2]; omega
theorem cmp_neq {x y : Nat} (hx : Fin32 x) (hy : Fin32 y) : fcmp .neq x y = decide (SV x ≠ SV y) := by
  unfold fcmp
  rw [ford_fin hx hy]
  simp only [compare, compareOfLessAndEq]
  by_cases h : SV x < SV y
  · have : SV x ≠ SV y := by omega
    simp [h, this]
  · by_cases h2 : SV x = SV y
    · simp [h2]
    · simp [h, h2]
theorem cmp_eql {x y : Nat} (hx : Fin32 x) (hy : Fin32 y) : fcmp .eql x y = decide (SV x = SV y) := by
  unfold fcmp
  rw [ford_fin hx hy]
  simp only [compare, compareOfLessAndEq]
  by_cases h : SV x < SV y
  · have : SV x ≠ SV y := by omega
    simp [h, this]
  · by_cases h2 : SV x = SV y
    · simp [h2]
    · simp [h, h2]
theorem fin_0 : Fin32 0 := by unfold Fin32 rung; decide
theorem SV_0 : SV 0 = 0 := by decide
theorem fin_1 : Fin32 1065353216 := by unfold Fin32 rung; decide
/-- A t that is above 0 and not from 1 on is a number between. -/
theorem unit_of {t : Nat} (h0 : fcmp .gtr t 0 = true) (h1 : fcmp .geq t 1065353216 = false) : Fin32 t ∧ 0 < SV t ∧ SV t < 2 ^ 149 := by
  have e1 : Ieee.single.signWeight = 2147483648 := by decide
  have e2 : Ieee.single.binade = 8388608 := by decide
  have e3 : Ieee.single.infRung = 2139095040 := by decide
  by_cases hf : Fin32 t
  · rw [cmp_gtr hf fin_0] at h0
    rw [cmp_geq hf fin_1, SV_one] at h1
    rw [SV_0] at h0
    simp only [decide_eq_true_eq, decide_eq_false_iff_not] at h0 h1
    exact ⟨hf, h0, by omega⟩
  · exfalso
    unfold Fin32 rung at hf
    have hr : Ieee.single.read t = .infinity (sgn t) ∨ ∃ f, Ieee.single.read t = .nan (sgn t) f := by
      unfold Ieee.Format.read
      dsimp only
      rw [e1, e2, e3, if_neg (by omega), if_neg (by omega)]
      split
      · exact .inl rfl
      · exact .inr ⟨_, rfl⟩
    obtain ⟨m0, j0, r0, _⟩ := read_fin fin_0
    obtain ⟨m1, j1, r1, _⟩ := read_fin fin_1
    unfold fcmp ford Ieee.Format.order at h0 h1
    rw [r0] at h0
    rw [r1] at h1
    rcases hr with hr | ⟨f, hr⟩
    · rw [hr] at h0 h1
      cases hs : sgn t <;> rw [hs] at h0 h1 <;> simp [Ieee.Datum.order] at h0 h1
    · rw [hr] at h0
      simp [Ieee.Datum.order] at h0
end Go.Proofs.Ytjffkidfoapbjaa.Fl
