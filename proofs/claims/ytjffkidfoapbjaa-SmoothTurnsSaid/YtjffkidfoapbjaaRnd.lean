/- Proved: what the operations on words of 32 bits answer, in whole numbers of the least place: sums, differences, products, the order; rounding is monotone, exact at what can be written, and off by half a last digit at most. -/
import Derived.Test.YtjffkidfoapbjaaFl
namespace Go.Proofs.Ytjffkidfoapbjaa.Fl
set_option linter.unusedVariables false
set_option linter.unusedSimpArgs false

/-! ### 1. Rounding -/
def rne (n g : Nat) : Nat := n / g + (if g < 2 * (n % g) ∨ (g = 2 * (n % g) ∧ n / g % 2 = 1) then 1 else 0)
theorem rne_le (n g : Nat) : rne n g ≤ n / g + 1 := by unfold rne; split <;> omega
theorem rne_ge (n g : Nat) : n / g ≤ rne n g := by unfold rne; split <;> omega
theorem rne_mono {n n' g : Nat} (hg : 0 < g) (h : n ≤ n') : rne n g ≤ rne n' g := by
  have h1 : n / g ≤ n' / g := Nat.div_le_div_right h
  rcases Nat.lt_or_ge (n / g) (n' / g) with h2 | h2
  · have := rne_le n g
    have := rne_ge n' g
    omega
  · have e : n / g = n' / g := by omega
    have hr : n % g ≤ n' % g := by
      have a := Nat.div_add_mod n g
      have b := Nat.div_add_mod n' g
      rw [← e] at b
      omega
    unfold rne
    rw [e]
    split <;> split <;> omega
theorem rne_exact (q g : Nat) (hg : 0 < g) : rne (q * g) g = q := by
  unfold rne
  rw [Nat.mul_div_cancel _ hg, Nat.mul_mod_left, if_neg (by omega)]
  rfl
/-- Off by half a unit at most. -/
theorem rne_near (n g : Nat) (hg : 0 < g) : 2 * (rne n g * g) ≤ 2 * n + g ∧ 2 * n ≤ 2 * (rne n g * g) + g := by
  have a := Nat.div_add_mod n g
  have b := Nat.mod_lt n hg
  have e : ∀ k, (n / g + k) * g = g * (n / g) + k * g := fun k => by rw [Nat.add_mul, Nat.mul_comm]
  unfold rne
  rw [e]
  split <;> omega
theorem rne_scale (n g k : Nat) (hg : 0 < g) (hk : 0 < k) : rne n g = rne (n * k) (g * k) := by
  unfold rne
  rw [Nat.mul_div_mul_right _ _ hk, Nat.mul_mod_mul_right]
  have h1 : g * k < 2 * (n % g * k) ↔ g < 2 * (n % g) := by rw [← Nat.mul_assoc]; exact Nat.mul_lt_mul_right hk
  have h2 : g * k = 2 * (n % g * k) ↔ g = 2 * (n % g) := by rw [← Nat.mul_assoc]; exact Nat.mul_left_inj (by omega)
  simp only [h1, h2]
theorem cut_even (neg : Bool) (n drop : Nat) : Ieee.Toward.even.cut neg n drop = rne n (2 ^ drop) := by
  unfold Ieee.Toward.cut
  simp only [Nat.one_shiftLeft]
  have key : ∀ g, (decide (g < 2 * (n % g)) || (g == 2 * (n % g) && n / g % 2 == 1)).toNat = (if g < 2 * (n % g) ∨ (g = 2 * (n % g) ∧ n / g % 2 = 1) then 1 else 0) := by
    intro g
    by_cases h1 : g < 2 * (n % g)
    · simp [h1]
    · by_cases h2 : g = 2 * (n % g)
      · by_cases h3 : n / g % 2 = 1
        · rw [if_pos (.inr ⟨h2, h3⟩)]
          simp [← h2, h3]
        · rw [if_neg (by omega)]
          simp [← h2, h3]
      · rw [if_neg (by omega)]
        simp [h1, h2]
  by_cases hd : drop ≤ n.log2 + 2
  · rw [Nat.min_eq_left hd, key]
    rfl
  · rw [Nat.min_eq_right (by omega), key]
    have h0 : n < 2 ^ (n.log2 + 1) := Nat.lt_log2_self
    have h1 : 2 ^ (n.log2 + 2) = 2 * 2 ^ (n.log2 + 1) := by rw [Nat.pow_succ, Nat.mul_comm]
    have h2 : 2 ^ (n.log2 + 2) ≤ 2 ^ drop := Nat.pow_le_pow_right (by omega) (by omega)
    have small : ∀ g, 2 * n < g → n / g = 0 ∧ n % g = n := fun g h => ⟨Nat.div_eq_of_lt (by omega), Nat.mod_eq_of_lt (by omega)⟩
    obtain ⟨a1, a2⟩ := small (2 ^ (n.log2 + 2)) (by omega)
    obtain ⟨b1, b2⟩ := small (2 ^ drop) (by omega)
    unfold rne
    rw [a1, a2, b1, b2, if_neg (by omega), if_neg (by omega)]

/-! ### 2. Rungs: the number X in units of 2 ^ (-149 - c), rounded -/
def eu (c X : Nat) : Nat := X.log2 - (23 + c)
def RG (c X : Nat) : Nat := eu c X * 8388608 + rne X (2 ^ (eu c X + c))
/-- The value of a rung, in units of 2 ^ -149. -/
def VAL (r : Nat) : Nat := if r < 8388608 then r else (8388608 + r % 8388608) * 2 ^ (r / 8388608 - 1)
theorem RG_le (c X : Nat) : rne X (2 ^ (eu c X + c)) ≤ 16777216 := by
  have h0 : X < 2 ^ (X.log2 + 1) := Nat.lt_log2_self
  have h1 : X < 16777216 * 2 ^ (eu c X + c) := by
    refine Nat.lt_of_lt_of_le h0 ?_
    rw [show (16777216 : Nat) = 2 ^ 24 by decide, ← Nat.pow_add]
    exact Nat.pow_le_pow_right (by omega) (by unfold eu; omega)
  have h2 : X / 2 ^ (eu c X + c) < 16777216 := Nat.div_lt_of_lt_mul (by rw [Nat.mul_comm]; exact h1)
  have := rne_le X (2 ^ (eu c X + c))
  omega
theorem RG_ge (c X : Nat) (h : 0 < eu c X) : 8388608 ≤ rne X (2 ^ (eu c X + c)) := by
  have hx : X ≠ 0 := by
    rintro rfl
    simp [eu] at h
  have h0 : 2 ^ X.log2 ≤ X := Nat.log2_self_le hx
  have e : X.log2 = 23 + (eu c X + c) := by unfold eu at h ⊢; omega
  rw [e, Nat.pow_add] at h0
  have : 2 ^ 23 ≤ X / 2 ^ (eu c X + c) := (Nat.le_div_iff_mul_le (Nat.two_pow_pos _)).2 h0
  have := rne_ge X (2 ^ (eu c X + c))
  omega
theorem log2_mono {X Y : Nat} (h : X ≤ Y) : X.log2 ≤ Y.log2 := by
  rcases Nat.eq_zero_or_pos X with rfl | hx
  · simp
  · exact (Nat.le_log2 (by omega)).2 (Nat.le_trans (Nat.log2_self_le (by omega)) h)
theorem RG_mono {c X Y : Nat} (h : X ≤ Y) : RG c X ≤ RG c Y := by
  have hl := log2_mono h
  have he : eu c X ≤ eu c Y := by unfold eu; omega
  unfold RG
  rcases Nat.lt_or_ge (eu c X) (eu c Y) with h1 | h1
  · have := RG_le c X
    have := RG_ge c Y (by omega)
    omega
  · have e : eu c X = eu c Y := by omega
    rw [e]
    have := rne_mono (Nat.two_pow_pos (eu c Y + c)) h
    omega
theorem log2_mul_pow (m j : Nat) (hm : m ≠ 0) : (m * 2 ^ j).log2 = m.log2 + j := by
  rw [Nat.log2_eq_iff (by have := Nat.two_pow_pos j; exact Nat.mul_ne_zero hm (by omega))]
  constructor
  · rw [Nat.pow_add]
    exact Nat.mul_le_mul_right _ (Nat.log2_self_le hm)
  · rw [show m.log2 + j + 1 = (m.log2 + 1) + j by omega, Nat.pow_add]
    exact Nat.mul_lt_mul_of_pos_right Nat.lt_log2_self (Nat.two_pow_pos j)
theorem RG_val (c r : Nat) : RG c (VAL r * 2 ^ c) = r := by
  unfold VAL
  split
  · rename_i h
    rcases Nat.eq_zero_or_pos r with rfl | h0
    · simp [RG, eu, rne]
    · have hl : r.log2 ≤ 22 := by
        have := (Nat.log2_lt (n := r) (k := 23) (by omega)).2 (by omega)
        omega
      have e : eu c (r * 2 ^ c) = 0 := by unfold eu; rw [log2_mul_pow r c (by omega)]; omega
      unfold RG
      simp only [e, Nat.zero_mul, Nat.zero_add]
      rw [rne_exact _ _ (Nat.two_pow_pos c)]
  · rename_i h
    have hm : 8388608 + r % 8388608 < 16777216 := by omega
    have hl : (8388608 + r % 8388608).log2 = 23 := (Nat.log2_eq_iff (by omega)).2 ⟨by omega, by omega⟩
    have ex : (8388608 + r % 8388608) * 2 ^ (r / 8388608 - 1) * 2 ^ c = (8388608 + r % 8388608) * 2 ^ (r / 8388608 - 1 + c) := by rw [Nat.mul_assoc, ← Nat.pow_add]
    have e : eu c ((8388608 + r % 8388608) * 2 ^ (r / 8388608 - 1 + c)) = r / 8388608 - 1 := by unfold eu; rw [log2_mul_pow _ _ (by omega), hl]; omega
    unfold RG
    rw [ex, e, rne_exact _ _ (Nat.two_pow_pos _)]
    omega
theorem VAL_lt {r s : Nat} (h : r < s) : VAL r < VAL s := by
  rcases Nat.lt_or_ge (VAL r) (VAL s) with h1 | h1
  · exact h1
  · have := RG_mono (c := 0) (Nat.mul_le_mul_right (2 ^ 0) h1)
    rw [RG_val, RG_val] at this
    omega
theorem VAL_le {r s : Nat} (h : r ≤ s) : VAL r ≤ VAL s := by
  rcases Nat.lt_or_ge r s with h1 | h1
  · exact Nat.le_of_lt (VAL_lt h1)
  · obtain rfl : r = s := by omega
    exact Nat.le_refl _
theorem VAL_inj {r s : Nat} (h : VAL r = VAL s) : r = s := by
  rcases Nat.lt_trichotomy r s with h1 | h1 | h1
  · have := VAL_lt h1; omega
  · exact h1
  · have := VAL_lt h1; omega
/-- What lies below what can be written is rounded to no more than it. -/
theorem RG_up {c X r : Nat} (h : X ≤ VAL r * 2 ^ c) : RG c X ≤ r := by
  have := RG_mono (c := c) h
  rwa [RG_val] at this
theorem RG_down {c X r : Nat} (h : VAL r * 2 ^ c ≤ X) : r ≤ RG c X := by
  have := RG_mono (c := c) h
  rwa [RG_val] at this
theorem VAL_RG (c X : Nat) : VAL (RG c X) = rne X (2 ^ (eu c X + c)) * 2 ^ eu c X := by
  have h1 := RG_le c X
  unfold RG
  rcases Nat.eq_zero_or_pos (eu c X) with h0 | h0
  · rw [h0] at h1 ⊢
    simp only [Nat.zero_mul, Nat.zero_add, Nat.pow_zero, Nat.mul_one] at h1 ⊢
    unfold VAL
    split
    · rfl
    · rename_i h
      rcases Nat.lt_or_ge (rne X (2 ^ c)) 16777216 with h2 | h2
      · rw [show rne X (2 ^ c) / 8388608 = 1 by omega]
        simp
        omega
      · obtain e : rne X (2 ^ c) = 16777216 := by omega
        rw [e]
  · have h2 := RG_ge c X h0
    generalize rne X (2 ^ (eu c X + c)) = k at h1 h2
    generalize eu c X = e at h0
    unfold VAL
    rw [if_neg (by omega)]
    rcases Nat.lt_or_ge k 16777216 with h3 | h3
    · rw [show (e * 8388608 + k) / 8388608 - 1 = e by omega, show 8388608 + (e * 8388608 + k) % 8388608 = k by omega]
    · obtain rfl : k = 16777216 := by omega
      rw [show (e * 8388608 + 16777216) / 8388608 - 1 = e + 1 by omega, show 8388608 + (e * 8388608 + 16777216) % 8388608 = 8388608 by omega, Nat.pow_succ]
      omega
/-- The error: half a last digit. -/
theorem RG_near {c X k : Nat} (hX : X < 2 ^ (24 + c + k)) : 2 * (VAL (RG c X) * 2 ^ c) ≤ 2 * X + 2 ^ (k + c) ∧ 2 * X ≤ 2 * (VAL (RG c X) * 2 ^ c) + 2 ^ (k + c) := by
  have he : eu c X ≤ k := by
    unfold eu
    rcases Nat.eq_zero_or_pos X with rfl | hx
    · simp
    · have := (Nat.log2_lt (n := X) (k := 24 + c + k) (by omega)).2 hX
      omega
  have hg : 2 ^ (eu c X + c) ≤ 2 ^ (k + c) := Nat.pow_le_pow_right (by omega) (by omega)
  have hn := rne_near X (2 ^ (eu c X + c)) (Nat.two_pow_pos _)
  rw [VAL_RG, Nat.mul_assoc, ← Nat.pow_add]
  omega

/-! ### 3. Words -/
def rung (x : Nat) : Nat := x % 2147483648
def sgn (x : Nat) : Bool := x / 2147483648 % 2 == 1
/-- A finite word. -/
def Fin32 (x : Nat) : Prop := rung x < 2139095040
/-- Its value, in units of 2 ^ -149. -/
def SV (x : Nat) : Int := if sgn x = true then -(VAL (rung x) : Int) else (VAL (rung x) : Int)
def word (neg : Bool) (r : Nat) : Nat := if neg = true then 2147483648 + r else r
theorem word_rung (s : Bool) {r : Nat} (h : r < 2147483648) : rung (word s r) = r := by
  unfold rung word
  split <;> omega
theorem word_sgn (s : Bool) {r : Nat} (h : r < 2147483648) : sgn (word s r) = s := by
  unfold sgn word
  cases s
  · rw [if_neg Bool.false_ne_true, show r / 2147483648 = 0 by omega]
    rfl
  · rw [if_pos rfl, show (2147483648 + r) / 2147483648 = 1 by omega]
    rfl
theorem word_self {x : Nat} (h : x < 4294967296) : word (sgn x) (rung x) = x := by
  unfold word sgn rung
  rcases Nat.lt_or_ge x 2147483648 with h1 | h1
  · rw [show x / 2147483648 = 0 by omega, if_neg (by decide)]
    omega
  · rw [show x / 2147483648 = 1 by omega, if_pos (by decide)]
    omega
/-- What a finite word stands for: a number m at a place not below the least, its value VAL. -/
theorem read_fin {x : Nat} (h : Fin32 x) : ∃ m j : Nat, Ieee.single.read x = .number (sgn x) m (-149 + (j : Int)) ∧ m * 2 ^ j = VAL (rung x) := by
  have e1 : Ieee.single.signWeight = 2147483648 := by decide
  have e2 : Ieee.single.binade = 8388608 := by decide
  have e3 : Ieee.single.infRung = 2139095040 := by decide
  have e4 : Ieee.single.leastPlace = -149 := by decide
  unfold Fin32 rung at h
  unfold Ieee.Format.read
  dsimp only
  rw [e1, e2, e3, e4]
  unfold VAL rung
  by_cases h1 : x % 2147483648 < 8388608
  · rw [if_pos h1, if_pos h1]
    exact ⟨x % 2147483648, 0, by simp [sgn], by simp⟩
  · rw [if_neg h1, if_pos h, if_neg h1]
    exact ⟨8388608 + x % 2147483648 % 8388608, x % 2147483648 / 8388608 - 1, rfl, rfl⟩
theorem fin_nan {x : Nat} (h : Fin32 x) : nan x = false := by
  obtain ⟨m, j, e, _⟩ := read_fin h
  unfold nan
  rw [e]
  rfl
/-- The nearest word to m at a place, spelled at the place -149 - c. -/
theorem nearest_RG (neg : Bool) (m c : Nat) (p : Int) (j : Nat) (hp : p = -149 - (c : Int) + (j : Int)) : Ieee.single.nearest neg m p = word neg (min (RG c (m * 2 ^ j)) 2139095040) := by
  have e1 : Ieee.single.signWeight = 2147483648 := by decide
  have e2 : Ieee.single.binade = 8388608 := by decide
  have e3 : Ieee.single.infRung = 2139095040 := by decide
  have e4 : Ieee.single.leastPlace = -149 := by decide
  have e5 : Ieee.single.fractionBits = 23 := by decide
  have ew : ∀ s r, Ieee.single.word s r = word s r := fun s r => by unfold Ieee.Format.word word; rw [e1]
  unfold Ieee.Format.nearest
  rcases Nat.eq_zero_or_pos m with rfl | hm
  · rw [if_pos rfl, ew]
    have : RG c (0 * 2 ^ j) = 0 := by simp [RG, eu, rne]
    rw [this]
    rfl
  · rw [if_neg (by omega)]
    dsimp only
    rw [ew, e2, e3, e4, e5, cut_even]
    refine congrArg (fun r => word neg (min r 2139095040)) ?_
    have hl := log2_mul_pow m j (by omega)
    unfold RG
    have he : eu c (m * 2 ^ j) = m.log2 + j - (23 + c) := by unfold eu; rw [hl]
    obtain ⟨last, hlast⟩ : ∃ last : Int, max (p + (m.log2 : Int) - (23 : Nat)) (-149) = last := ⟨_, rfl⟩
    have hl2 : last = -149 + ((eu c (m * 2 ^ j) : Nat) : Int) := by rw [he]; omega
    rw [hlast]
    have h1 : (last - -149).toNat = eu c (m * 2 ^ j) := by omega
    rw [h1]
    congr 1
    generalize eu c (m * 2 ^ j) = e at *
    rcases Int.le_total p last with h2 | h2
    · have h3 : (p - last).toNat = 0 := by omega
      rw [h3, Nat.shiftLeft_zero]
      have h4 : (last - p).toNat + j = e + c := by omega
      have h5 : 2 ^ (e + c) = 2 ^ (last - p).toNat * 2 ^ j := by rw [← Nat.pow_add, h4]
      rw [h5]
      exact rne_scale m (2 ^ (last - p).toNat) (2 ^ j) (Nat.two_pow_pos _) (Nat.two_pow_pos _)
    · have h3 : (last - p).toNat = 0 := by omega
      rw [h3, Nat.shiftLeft_eq, Nat.pow_zero]
      have h4 : (p - last).toNat + (e + c) = j := by omega
      have h5 : m * 2 ^ j = m * 2 ^ (p - last).toNat * 2 ^ (e + c) := by rw [Nat.mul_assoc, ← Nat.pow_add, h4]
      rw [h5, rne_exact _ _ (Nat.two_pow_pos _)]
      have := rne_exact (m * 2 ^ (p - last).toNat) 1 (by omega)
      rwa [Nat.mul_one] at this
theorem RG_fin_lt {c X : Nat} (h : RG c X < 2139095040) : min (RG c X) 2139095040 = RG c X := Nat.min_eq_left (by omega)
theorem signed_int (neg : Bool) (m k : Nat) : Ieee.signed neg m k = if neg = true then -((m * 2 ^ k : Nat) : Int) else ((m * 2 ^ k : Nat) : Int) := by
  unfold Ieee.signed
  rw [Nat.shiftLeft_eq]
/-- A finite word's value is its number at the least place. -/
theorem SV_signed {x m j : Nat} (h : m * 2 ^ j = VAL (rung x)) : SV x = Ieee.signed (sgn x) m j := by
  rw [signed_int, h]
  rfl
theorem signed_shift (neg : Bool) (m k d : Nat) : Ieee.signed neg m (k + d) = Ieee.signed neg m k * 2 ^ d := by
  rw [signed_int, signed_int, Nat.pow_add, ← Nat.mul_assoc]
  split <;> push_cast <;> simp [Int.neg_mul]
theorem natAbs_shift (z : Int) (d : Nat) : (z * 2 ^ d).natAbs = z.natAbs * 2 ^ d := by
  rw [Int.natAbs_mul]
  congr 1
/-- A sum of two finite words, rounded. -/
theorem sum_fin {x y : Nat} {s t : Bool} {mx jx my jy : Nat} : ∃ neg : Bool, (Ieee.Datum.sum (.number s mx (-149 + (jx : Int))) (.number t my (-149 + (jy : Int)))).map Ieee.single.write = some (word neg (min (RG 0 (Ieee.signed s mx jx + Ieee.signed t my jy).natAbs) 2139095040)) ∧
    (Ieee.signed s mx jx + Ieee.signed t my jy < 0 → neg = true) ∧ (0 < Ieee.signed s mx jx + Ieee.signed t my jy → neg = false) ∧ (Ieee.signed s mx jx + Ieee.signed t my jy = 0 → neg = (s && t)) := by
  obtain ⟨b, hb⟩ : ∃ b : Nat, min (-149 + (jx : Int)) (-149 + (jy : Int)) = -149 + (b : Int) := ⟨min jx jy, by omega⟩
  have hx : jx = (-149 + (jx : Int) - (-149 + (b : Int))).toNat + b := by omega
  have hy : jy = (-149 + (jy : Int) - (-149 + (b : Int))).toNat + b := by omega
  have ex : Ieee.signed s mx jx = Ieee.signed s mx (-149 + (jx : Int) - (-149 + (b : Int))).toNat * 2 ^ b := by rw [← signed_shift]; rw [← hx]
  have ey : Ieee.signed t my jy = Ieee.signed t my (-149 + (jy : Int) - (-149 + (b : Int))).toNat * 2 ^ b := by rw [← signed_shift]; rw [← hy]
  simp only [Ieee.Datum.sum, hb, Option.map_some, Ieee.Format.write]
  rw [ex, ey, ← Int.add_mul, natAbs_shift]
  generalize Ieee.signed s mx (-149 + (jx : Int) - (-149 + (b : Int))).toNat + Ieee.signed t my (-149 + (jy : Int) - (-149 + (b : Int))).toNat = T
  have hpos : (0 : Int) < 2 ^ b := Int.pow_pos (by decide)
  have hneg : T * 2 ^ b < 0 ↔ T < 0 := ⟨fun h => by
    rcases Int.lt_or_le T 0 with h1 | h1
    · exact h1
    · have := Int.mul_nonneg h1 (Int.le_of_lt hpos); omega, fun h => Int.mul_neg_of_neg_of_pos h hpos⟩
  have hzero : T * 2 ^ b = 0 ↔ T = 0 := by
    constructor
    · intro h
      rcases Int.mul_eq_zero.1 h with h1 | h1
      · exact h1
      · omega
    · rintro rfl
      simp
  have hposi : 0 < T * 2 ^ b ↔ 0 < T := by
    constructor
    · intro h; rcases Int.lt_trichotomy T 0 with h1 | h1 | h1
      · have := hneg.2 h1; omega
      · have := hzero.2 h1; omega
      · exact h1
    · intro h; exact Int.mul_pos h hpos
  refine ⟨_, by rw [nearest_RG _ _ 0 _ b (by omega)], fun h => ?_, fun h => ?_, fun h => ?_⟩
  · have h1 := hneg.1 h
    rw [if_neg (by omega)]
    simpa using h1
  · have h1 := hposi.1 h
    rw [if_neg (by omega)]
    simp
    omega
  · rw [if_pos (hzero.1 h)]
end Go.Proofs.Ytjffkidfoapbjaa.Fl
