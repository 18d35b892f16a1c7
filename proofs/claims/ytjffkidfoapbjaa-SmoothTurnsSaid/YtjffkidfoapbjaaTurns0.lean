/- Proved: of two places with angles from 0 to below 360 and any t: the angle stays, goes the shorter way within a hundredth; the place lies between. In values of words. -/
import Derived.Test.YtjffkidfoapbjaaSelf0
namespace Go.Proofs.Ytjffkidfoapbjaa.Fl
set_option linter.unusedVariables false
set_option linter.unusedSimpArgs false

/-- A tame number: below a million. -/
structure Tame (x : Nat) : Prop where
  fin : Fin32 x
  lo : -1000000 * 2 ^ 149 < SV x
  hi : SV x < 1000000 * 2 ^ 149
theorem U_val : (2 : Int) ^ 149 = 713623846352979940529142984724747568191373312 := by decide +kernel
theorem big_val : (2000000000 * 2 ^ 149 : Nat) ≤ VAL 2139095039 := by decide +kernel
theorem ok_abs {T : Int} (h0 : -2000000000 * 2 ^ 149 ≤ T) (h1 : T ≤ 2000000000 * 2 ^ 149) : T.natAbs ≤ VAL 2139095039 := by
  have := big_val
  have e : ((2000000000 * 2 ^ 149 : Nat) : Int) = 2000000000 * 2 ^ 149 := by decide +kernel
  rw [U_val] at *
  omega
theorem near_k {z : Nat} {T : Int} (h : Rd z T) (k : Nat) (n d : Int) (hn : ((2 ^ (24 + 0 + k) : Nat) : Int) = n) (hd : ((2 ^ k : Nat) : Int) = d) (h0 : -n < T) (h1 : T < n) : 2 * SV z ≤ 2 * T + d ∧ 2 * T ≤ 2 * SV z + d := by
  have := h.near k (by omega)
  rw [hd] at this
  exact this

/-! ### 1. A number between two -/
theorem share_near {a b t : Nat} (ha : Tame a) (hb : Tame b) (ht : Fin32 t) (h0 : 0 < SV t) (h1 : SV t < 2 ^ 149) :
    Fin32 (share a b t) ∧ (min (SV a) (SV b)) * 16 - 3 * 2 ^ 149 ≤ SV (share a b t) * 16 ∧ SV (share a b t) * 16 ≤ (max (SV a) (SV b)) * 16 + 3 * 2 ^ 149 := by
  obtain ⟨fa, la, ua⟩ := ha
  obtain ⟨fb, lb, ub⟩ := hb
  have hd := sub_rd fb fa (ok_abs (by rw [U_val] at *; omega) (by rw [U_val] at *; omega))
  obtain ⟨e1, e2, e3⟩ := mul_unit hd.fin ht (Int.le_of_lt h0) (Int.le_of_lt h1)
  have nd := near_k hd 146 (2 ^ 170) (2 ^ 146) (by decide +kernel) (by decide +kernel) (by rw [U_val] at *; omega) (by rw [U_val] at *; omega)
  have hs := add_rd fa e1 (ok_abs (by
    rcases Int.le_total 0 (SV (fop .sub b a)) with h | h
    · have := e2 h; rw [U_val] at *; omega
    · have := e3 h; rw [U_val] at *; omega) (by
    rcases Int.le_total 0 (SV (fop .sub b a)) with h | h
    · have := e2 h; rw [U_val] at *; omega
    · have := e3 h; rw [U_val] at *; omega))
  have ns := near_k hs 147 (2 ^ 171) (2 ^ 147) (by decide +kernel) (by decide +kernel) (by
    rcases Int.le_total 0 (SV (fop .sub b a)) with h | h
    · have := e2 h; rw [U_val] at *; omega
    · have := e3 h; rw [U_val] at *; omega) (by
    rcases Int.le_total 0 (SV (fop .sub b a)) with h | h
    · have := e2 h; rw [U_val] at *; omega
    · have := e3 h; rw [U_val] at *; omega)
  refine ⟨hs.fin, ?_, ?_⟩
  · unfold share
    rcases Int.le_total 0 (SV (fop .sub b a)) with h | h
    · have := e2 h; rw [U_val] at *; omega
    · have := e3 h; rw [U_val] at *; omega
  · unfold share
    rcases Int.le_total 0 (SV (fop .sub b a)) with h | h
    · have := e2 h; rw [U_val] at *; omega
    · have := e3 h; rw [U_val] at *; omega
theorem mixS_near {a b : Nat} (t : Nat) (ha : Tame a) (hb : Tame b) :
    Fin32 (mixS a b t) ∧ (min (SV a) (SV b)) * 16 - 3 * 2 ^ 149 ≤ SV (mixS a b t) * 16 ∧ SV (mixS a b t) * 16 ≤ (max (SV a) (SV b)) * 16 + 3 * 2 ^ 149 := by
  unfold mixS
  cases h0 : fcmp .gtr t 0
  · rw [if_neg Bool.false_ne_true]
    exact ⟨ha.fin, by rw [U_val]; omega, by rw [U_val]; omega⟩
  · rw [if_pos rfl]
    cases h1 : fcmp .geq t 1065353216
    · rw [if_neg Bool.false_ne_true]
      obtain ⟨p, q, r⟩ := unit_of h0 h1
      exact share_near ha hb p q r
    · rw [if_pos rfl]
      exact ⟨hb.fin, by rw [U_val]; omega, by rw [U_val]; omega⟩
/-- One below the smaller, one above the greater, as written. -/
theorem below_one {a m : Nat} (ha : Tame a) (hm : Fin32 m) (h : SV a * 16 - 3 * 2 ^ 149 ≤ SV m * 16) : Fin32 (fop .sub a 1065353216) ∧ fcmp .geq m (fop .sub a 1065353216) = true := by
  obtain ⟨fa, la, ua⟩ := ha
  have hr := sub_rd fa fin_1 (ok_abs (by rw [SV_one, U_val] at *; omega) (by rw [SV_one, U_val] at *; omega))
  have nr := near_k hr 145 (2 ^ 169) (2 ^ 145) (by decide +kernel) (by decide +kernel) (by rw [SV_one, U_val] at *; omega) (by rw [SV_one, U_val] at *; omega)
  refine ⟨hr.fin, ?_⟩
  rw [cmp_geq hm hr.fin]
  rw [SV_one, U_val] at nr
  rw [U_val] at h
  exact decide_eq_true (by omega)
theorem above_one {a m : Nat} (ha : Tame a) (hm : Fin32 m) (h : SV m * 16 ≤ SV a * 16 + 3 * 2 ^ 149) : Fin32 (fop .add a 1065353216) ∧ fcmp .leq m (fop .add a 1065353216) = true := by
  obtain ⟨fa, la, ua⟩ := ha
  have hr := add_rd fa fin_1 (ok_abs (by rw [SV_one, U_val] at *; omega) (by rw [SV_one, U_val] at *; omega))
  have nr := near_k hr 145 (2 ^ 169) (2 ^ 145) (by decide +kernel) (by decide +kernel) (by rw [SV_one, U_val] at *; omega) (by rw [SV_one, U_val] at *; omega)
  refine ⟨hr.fin, ?_⟩
  rw [cmp_leq hm hr.fin]
  rw [SV_one, U_val] at nr
  rw [U_val] at h
  exact decide_eq_true (by omega)

/-! ### 2. The angle -/
/-- The turned difference: from -180 to 180, its way near the difference's own or a turn from it. -/
theorem turned_near {a b : Nat} (ha : Ang a) (hb : Ang b) : Fin32 (turned (fop .sub b a)) ∧ -180 * 2 ^ 149 ≤ SV (turned (fop .sub b a)) ∧ SV (turned (fop .sub b a)) ≤ 180 * 2 ^ 149 ∧
    ∃ n : Int, (n = 0 ∨ n = 1 ∨ n = -1) ∧ SV (turned (fop .sub b a)) * 2 ^ 14 ≤ (SV b - SV a + n * (360 * 2 ^ 149)) * 2 ^ 14 + 2 ^ 149 ∧ (SV b - SV a + n * (360 * 2 ^ 149)) * 2 ^ 14 ≤ SV (turned (fop .sub b a)) * 2 ^ 14 + 2 ^ 149 := by
  obtain ⟨fa, la, ua⟩ := ha
  obtain ⟨fb, lb, ub⟩ := hb
  have hd := sub_rd fb fa (ok_abs (by rw [U_val] at *; omega) (by rw [U_val] at *; omega))
  have nd := near_k hd 135 (2 ^ 159) (2 ^ 135) (by decide +kernel) (by decide +kernel) (by rw [U_val] at *; omega) (by rw [U_val] at *; omega)
  have u360 := hd.le (y := 1135869952) (by rw [SV_360, U_val] at *; omega)
  have fm : Fin32 3283353600 := by unfold Fin32 rung; decide
  have sm : SV 3283353600 = -360 * 2 ^ 149 := by decide +kernel
  have l360 := hd.ge (y := 3283353600) (by rw [sm, U_val] at *; omega)
  rw [SV_360] at u360
  rw [sm] at l360
  unfold turned
  rw [cmp_gtr hd.fin fin_180, cmp_lss hd.fin fin_m180, SV_180, SV_m180]
  have fd := hd.fin
  generalize fop .sub b a = d at *
  by_cases c1 : 180 * 2 ^ 149 < SV d
  · rw [if_pos (decide_eq_true c1)]
    have hr := sub_rd fd fin_360 (ok_abs (by rw [SV_360, U_val] at *; omega) (by rw [SV_360, U_val] at *; omega))
    have nr := near_k hr 135 (2 ^ 159) (2 ^ 135) (by decide +kernel) (by decide +kernel) (by rw [SV_360, U_val] at *; omega) (by rw [SV_360, U_val] at *; omega)
    have r1 := hr.ge (y := 3274964992) (by rw [SV_360, SV_m180, U_val] at *; omega)
    have r2 := hr.le (y := 0) (by rw [SV_360, SV_0, U_val] at *; omega)
    rw [SV_m180] at r1
    rw [SV_0] at r2
    rw [SV_360] at nr
    refine ⟨hr.fin, by rw [U_val] at *; omega, by rw [U_val] at *; omega, -1, by omega, ?_, ?_⟩
    · rw [U_val] at *; omega
    · rw [U_val] at *; omega
  · rw [if_neg (by simpa using c1)]
    by_cases c2 : SV d < -180 * 2 ^ 149
    · rw [if_pos (decide_eq_true c2)]
      have hr := add_rd fd fin_360 (ok_abs (by rw [SV_360, U_val] at *; omega) (by rw [SV_360, U_val] at *; omega))
      have nr := near_k hr 135 (2 ^ 159) (2 ^ 135) (by decide +kernel) (by decide +kernel) (by rw [SV_360, U_val] at *; omega) (by rw [SV_360, U_val] at *; omega)
      have r1 := hr.le (y := 1127481344) (by rw [SV_360, SV_180, U_val] at *; omega)
      have r2 := hr.ge (y := 0) (by rw [SV_360, SV_0, U_val] at *; omega)
      rw [SV_180] at r1
      rw [SV_0] at r2
      rw [SV_360] at nr
      refine ⟨hr.fin, by rw [U_val] at *; omega, by rw [U_val] at *; omega, 1, by omega, ?_, ?_⟩
      · rw [U_val] at *; omega
      · rw [U_val] at *; omega
    · rw [if_neg (by simpa using c2)]
      refine ⟨fd, by rw [U_val] at *; omega, by rw [U_val] at *; omega, 0, by omega, ?_, ?_⟩
      · rw [U_val] at *; omega
      · rw [U_val] at *; omega
/-- Brought into a turn: a's angle and what lies from -180 to 180 beside it. -/
theorem brought {a e : Nat} (ha : Ang a) (fe : Fin32 e) (h0 : -180 * 2 ^ 149 ≤ SV e) (h1 : SV e ≤ 180 * 2 ^ 149) : Ang (over (under (fop .add a e))) ∧
    ∃ n : Int, (n = 0 ∨ n = 1 ∨ n = -1) ∧ SV (over (under (fop .add a e))) * 2 ^ 13 ≤ (SV a + SV e + n * (360 * 2 ^ 149)) * 2 ^ 13 + 2 ^ 149 ∧ (SV a + SV e + n * (360 * 2 ^ 149)) * 2 ^ 13 ≤ SV (over (under (fop .add a e))) * 2 ^ 13 + 2 ^ 149 := by
  obtain ⟨fa, la, ua⟩ := ha
  have hw := add_rd fa fe (ok_abs (by rw [U_val] at *; omega) (by rw [U_val] at *; omega))
  have nw := near_k hw 135 (2 ^ 159) (2 ^ 135) (by decide +kernel) (by decide +kernel) (by rw [U_val] at *; omega) (by rw [U_val] at *; omega)
  have w1 := hw.ge (y := 3274964992) (by rw [SV_m180, U_val] at *; omega)
  have f540 : Fin32 1141309440 := by unfold Fin32 rung; decide
  have s540 : SV 1141309440 = 540 * 2 ^ 149 := by decide +kernel
  have w2 := hw.le (y := 1141309440) (by rw [s540, U_val] at *; omega)
  rw [SV_m180] at w1
  rw [s540] at w2
  have fw := hw.fin
  generalize fop .add a e = w at *
  by_cases c1 : 360 * 2 ^ 149 ≤ SV w
  · have e1 : under w = fop .sub w 1135869952 := by
      unfold under
      rw [cmp_geq fw fin_360, SV_360, if_pos (decide_eq_true c1)]
    rw [e1]
    have hr := sub_rd fw fin_360 (ok_abs (by rw [SV_360, U_val] at *; omega) (by rw [SV_360, U_val] at *; omega))
    have nr := near_k hr 135 (2 ^ 159) (2 ^ 135) (by decide +kernel) (by decide +kernel) (by rw [SV_360, U_val] at *; omega) (by rw [SV_360, U_val] at *; omega)
    have r1 := hr.le (y := 1127481344) (by rw [SV_360, SV_180, U_val] at *; omega)
    have r2 := hr.ge (y := 0) (by rw [SV_360, SV_0, U_val] at *; omega)
    rw [SV_180] at r1
    rw [SV_0] at r2
    rw [SV_360] at nr
    have e2 : over (fop .sub w 1135869952) = fop .sub w 1135869952 := by
      unfold over
      rw [cmp_lss hr.fin fin_0, SV_0, if_neg (by simpa using r2)]
    rw [e2]
    refine ⟨⟨hr.fin, by omega, by rw [U_val] at *; omega⟩, -1, by omega, ?_, ?_⟩
    · rw [U_val] at *; omega
    · rw [U_val] at *; omega
  · have e1 : under w = w := by
      unfold under
      rw [cmp_geq fw fin_360, SV_360, if_neg (by simpa using c1)]
    rw [e1]
    by_cases c2 : SV w < 0
    · have hr := add_rd fw fin_360 (ok_abs (by rw [SV_360, U_val] at *; omega) (by rw [SV_360, U_val] at *; omega))
      have nr := near_k hr 135 (2 ^ 159) (2 ^ 135) (by decide +kernel) (by decide +kernel) (by rw [SV_360, U_val] at *; omega) (by rw [SV_360, U_val] at *; omega)
      have r1 := hr.ge (y := 1127481344) (by rw [SV_360, SV_180, U_val] at *; omega)
      rw [SV_180] at r1
      rw [SV_360] at nr
      by_cases c3 : 360 * 2 ^ 149 ≤ SV (fop .add w 1135869952)
      · have e2 : over w = 0 := by
          unfold over
          rw [cmp_lss fw fin_0, SV_0, if_pos (decide_eq_true c2), cmp_geq hr.fin fin_360, SV_360, if_pos (decide_eq_true c3)]
        rw [e2]
        refine ⟨⟨fin_0, by rw [SV_0]; omega, by rw [SV_0, U_val]; omega⟩, 0, by omega, ?_, ?_⟩
        · rw [SV_0]; rw [U_val] at *; omega
        · rw [SV_0]; rw [U_val] at *; omega
      · have e2 : over w = fop .add w 1135869952 := by
          unfold over
          rw [cmp_lss fw fin_0, SV_0, if_pos (decide_eq_true c2), cmp_geq hr.fin fin_360, SV_360, if_neg (by simpa using c3)]
        rw [e2]
        refine ⟨⟨hr.fin, by rw [U_val] at *; omega, by omega⟩, 1, by omega, ?_, ?_⟩
        · rw [U_val] at *; omega
        · rw [U_val] at *; omega
    · have e2 : over w = w := by
        unfold over
        rw [cmp_lss fw fin_0, SV_0, if_neg (by simpa using c2)]
      rw [e2]
      refine ⟨⟨fw, by omega, by omega⟩, 0, by omega, ?_, ?_⟩
      · rw [U_val] at *; omega
      · rw [U_val] at *; omega

/-! ### 3. How far two angles lie from one another -/
def negF (x : Nat) : Nat := x ^^^ 2147483648
theorem negF_sv {x : Nat} (h : Fin32 x) (hx : x < 4294967296) : Fin32 (negF x) ∧ SV (negF x) = - SV x := by
  have key : rung (negF x) = rung x ∧ sgn (negF x) = !sgn x := by
    unfold negF rung sgn
    have h1 : (x ^^^ 2147483648) % 2147483648 = x % 2147483648 := by
      have := Nat.xor_mod_two_pow (a := x) (b := 2147483648) (n := 31)
      rw [show (2 : Nat) ^ 31 = 2147483648 by decide] at this
      rw [this, show 2147483648 % 2147483648 = 0 by decide, Nat.xor_zero]
    have h2 : (x ^^^ 2147483648) / 2147483648 = x / 2147483648 ^^^ 1 := by
      have := Nat.xor_div_two_pow (a := x) (b := 2147483648) (n := 31)
      rw [show (2 : Nat) ^ 31 = 2147483648 by decide] at this
      rw [this]
    rw [h1, h2]
    refine ⟨rfl, ?_⟩
    have : x / 2147483648 = 0 ∨ x / 2147483648 = 1 := by omega
    rcases this with e | e <;> rw [e] <;> decide
  refine ⟨by unfold Fin32; rw [key.1]; exact h, ?_⟩
  unfold SV
  rw [key.1, key.2]
  cases sgn x <;> simp
def absF (d : Nat) : Nat := if fcmp .lss d 0 = true then negF d else d
def wayF (a b : Nat) : Nat := if fcmp .gtr (absF (fop .sub a b)) 1127481344 = true then fop .sub 1135869952 (absF (fop .sub a b)) else absF (fop .sub a b)
theorem fop_lt {op : BinOp} {x y : Nat} (h : Fin32 (fop op x y)) : fop op x y < 4294967296 := by
  unfold fop at h ⊢
  cases hb : floatBits op .f32 x y with
  | none => simp
  | some r =>
    have := floatBits_wf hb
    simp [Lit.wf] at this
    simpa using this
theorem absF_sv {d : Nat} (h : Fin32 d) (hd : d < 4294967296) : Fin32 (absF d) ∧ SV (absF d) = (SV d).natAbs := by
  unfold absF
  rw [cmp_lss h fin_0, SV_0]
  by_cases c : SV d < 0
  · rw [if_pos (decide_eq_true c)]
    obtain ⟨a, b⟩ := negF_sv h hd
    exact ⟨a, by rw [b]; omega⟩
  · rw [if_neg (by simpa using c)]
    exact ⟨h, by omega⟩
theorem way_near {a b : Nat} (ha : Ang a) (hb : Ang b) : Fin32 (wayF a b) ∧ 0 ≤ SV (wayF a b) ∧ SV (wayF a b) ≤ 180 * 2 ^ 149 ∧
    (∀ n : Int, (n = 0 ∨ n = 1 ∨ n = -1) → SV (wayF a b) * 2 ^ 14 ≤ ((SV b - SV a + n * (360 * 2 ^ 149)).natAbs : Int) * 2 ^ 14 + 2 ^ 149) ∧
    ∃ n : Int, (n = 0 ∨ n = 1 ∨ n = -1) ∧ ((SV b - SV a + n * (360 * 2 ^ 149)).natAbs : Int) * 2 ^ 14 ≤ SV (wayF a b) * 2 ^ 14 + 2 ^ 149 := by
  obtain ⟨fa, la, ua⟩ := ha
  obtain ⟨fb, lb, ub⟩ := hb
  have hd := sub_rd fa fb (ok_abs (by rw [U_val] at *; omega) (by rw [U_val] at *; omega))
  have nd := near_k hd 135 (2 ^ 159) (2 ^ 135) (by decide +kernel) (by decide +kernel) (by rw [U_val] at *; omega) (by rw [U_val] at *; omega)
  have u360 := hd.le (y := 1135869952) (by rw [SV_360, U_val] at *; omega)
  have fm : Fin32 3283353600 := by unfold Fin32 rung; decide
  have sm : SV 3283353600 = -360 * 2 ^ 149 := by decide +kernel
  have l360 := hd.ge (y := 3283353600) (by rw [sm, U_val] at *; omega)
  rw [SV_360] at u360
  rw [sm] at l360
  obtain ⟨f1, s1⟩ := absF_sv hd.fin (fop_lt hd.fin)
  unfold wayF
  rw [cmp_gtr f1 fin_180, SV_180]
  generalize absF (fop .sub a b) = v at *
  generalize SV (fop .sub a b) = D at *
  by_cases c : 180 * 2 ^ 149 < SV v
  · rw [if_pos (decide_eq_true c)]
    have hr := sub_rd fin_360 f1 (ok_abs (by rw [SV_360, U_val] at *; omega) (by rw [SV_360, U_val] at *; omega))
    have nr := near_k hr 135 (2 ^ 159) (2 ^ 135) (by decide +kernel) (by decide +kernel) (by rw [SV_360, U_val] at *; omega) (by rw [SV_360, U_val] at *; omega)
    have r1 := hr.le (y := 1127481344) (by rw [SV_360, SV_180, U_val] at *; omega)
    have r2 := hr.ge (y := 0) (by rw [SV_360, SV_0, U_val] at *; omega)
    rw [SV_180] at r1
    rw [SV_0] at r2
    rw [SV_360] at nr
    refine ⟨hr.fin, r2, r1, fun n hn => ?_, ?_⟩
    · rw [U_val] at *
      rcases hn with rfl | rfl | rfl <;> omega
    · rcases Int.le_total 0 D with h | h
      · exact ⟨1, by omega, by rw [U_val] at *; omega⟩
      · exact ⟨-1, by omega, by rw [U_val] at *; omega⟩
  · rw [if_neg (by simpa using c)]
    refine ⟨f1, by rw [U_val] at *; omega, by omega, fun n hn => ?_, 0, by omega, ?_⟩
    · rw [U_val] at *
      rcases hn with rfl | rfl | rfl <;> omega
    · rw [U_val] at *; omega

/-! ### 4. The shorter way -/
theorem fin_c : Fin32 1008981770 := by unfold Fin32 rung; decide
/-- A hundredth, as it is written, is above 160 errors. -/
theorem SV_c : 160 * 2 ^ 149 ≤ SV 1008981770 * 2 ^ 14 - 3 * 2 ^ 149 ∧ SV 1008981770 ≤ 2 ^ 149 := by decide +kernel
theorem way_le {a b m : Nat} (ha : Ang a) (hb : Ang b) (hm : Ang m) (h : ∀ n : Int, (n = 0 ∨ n = 1 ∨ n = -1) → ∃ k : Int, (k = 0 ∨ k = 1 ∨ k = -1) ∧ ((SV m - SV a + k * (360 * 2 ^ 149)).natAbs : Int) * 2 ^ 13 ≤ ((SV b - SV a + n * (360 * 2 ^ 149)).natAbs : Int) * 2 ^ 13 + 8 * 2 ^ 149) :
    Fin32 (fop .add (wayF a b) 1008981770) ∧ fcmp .leq (wayF a m) (fop .add (wayF a b) 1008981770) = true := by
  obtain ⟨f1, p1, q1, u1, _⟩ := way_near ha hm
  obtain ⟨f2, p2, q2, _, n2, hn2, l2⟩ := way_near ha hb
  obtain ⟨k, hk, hkl⟩ := h n2 hn2
  have u := u1 k hk
  obtain ⟨c1, c2⟩ := SV_c
  have hr := add_rd f2 fin_c (ok_abs (by rw [U_val] at *; omega) (by rw [U_val] at *; omega))
  have nr := near_k hr 135 (2 ^ 159) (2 ^ 135) (by decide +kernel) (by decide +kernel) (by rw [U_val] at *; omega) (by rw [U_val] at *; omega)
  refine ⟨hr.fin, ?_⟩
  rw [cmp_leq f1 hr.fin]
  refine decide_eq_true ?_
  generalize SV (fop .add (wayF a b) 1008981770) = R at *
  generalize SV (wayF a m) = W1 at *
  generalize SV (wayF a b) = W2 at *
  generalize ((SV m - SV a + k * (360 * 2 ^ 149)).natAbs : Int) = M1 at *
  generalize ((SV b - SV a + n2 * (360 * 2 ^ 149)).natAbs : Int) = M2 at *
  rw [U_val] at *
  omega
theorem mixA_way {a b : Nat} (t : Nat) (ha : Ang a) (hb : Ang b) : Ang (mixA a b t) ∧ Fin32 (fop .add (wayF a b) 1008981770) ∧ fcmp .leq (wayF a (mixA a b t)) (fop .add (wayF a b) 1008981770) = true := by
  unfold mixA
  cases h0 : fcmp .gtr t 0
  · rw [if_neg Bool.false_ne_true]
    refine ⟨ha, way_le ha hb ha fun n hn => ⟨0, by omega, ?_⟩⟩
    rw [U_val]
    omega
  · rw [if_pos rfl]
    cases h1 : fcmp .geq t 1065353216
    · rw [if_neg Bool.false_ne_true]
      obtain ⟨ft, t0, t1⟩ := unit_of h0 h1
      obtain ⟨fd, d0, d1, n1, hn1, dl, du⟩ := turned_near ha hb
      obtain ⟨fe, e1, e2⟩ := mul_unit fd ft (Int.le_of_lt t0) (Int.le_of_lt t1)
      have hE : (SV (fop .mul (turned (fop .sub b a)) t)).natAbs ≤ (SV (turned (fop .sub b a))).natAbs := by
        rcases Int.le_total 0 (SV (turned (fop .sub b a))) with h | h
        · have := e1 h; omega
        · have := e2 h; omega
      obtain ⟨hm, n2, hn2, ml, mu⟩ := brought (e := fop .mul (turned (fop .sub b a)) t) ha fe (by rw [U_val] at *; omega) (by rw [U_val] at *; omega)
      have em : angle a b t = over (under (fop .add a (fop .mul (turned (fop .sub b a)) t))) := rfl
      rw [em]
      refine ⟨hm, way_le ha hb hm fun n hn => ⟨-n2, by omega, ?_⟩⟩
      obtain ⟨fa, la, ua⟩ := ha
      obtain ⟨fb, lb, ub⟩ := hb
      generalize SV (over (under (fop .add a (fop .mul (turned (fop .sub b a)) t)))) = M at *
      generalize SV (fop .mul (turned (fop .sub b a)) t) = E at *
      generalize SV (turned (fop .sub b a)) = D at *
      generalize SV a = A at *
      generalize SV b = B at *
      clear e1 e2
      rw [U_val] at *
      rcases hn with rfl | rfl | rfl <;> rcases hn1 with rfl | rfl | rfl <;> rcases hn2 with rfl | rfl | rfl <;> omega
    · rw [if_pos rfl]
      refine ⟨hb, way_le ha hb hb fun n hn => ⟨n, hn, ?_⟩⟩
      rw [U_val]
      omega
end Go.Proofs.Ytjffkidfoapbjaa.Fl
