/- Proved: a place of Of mixed with itself is that place; things of which no two meet. -/
import Derived.Test.YtjffkidfoapbjaaRnd2
import Derived.Test.YtjffkidfoapbjaaLent
import Derived.Test.YtjffkidfoapbjaaRefBetw
import Derived.Test.YtjffkidfoapbjaaAlive
namespace Go.Proofs.Ytjffkidfoapbjaa.Fl
open Go.RowKit Go.Proofs.YtjffkidfoapbjaaW.PrintWords Go.Proofs.YtjffkidfoapbjaaW.PrintLast Go.Proofs.YtjffkidfoapbjaaW.PrintMore
set_option linter.unusedVariables false
set_option linter.unusedSimpArgs false

theorem Rd.zero {z : Nat} (h : Rd z 0) : SV z = 0 := by
  rw [h.sv]
  rfl
theorem sub_self {f : Nat} (hf : Fin32 f) : Fin32 (fop .sub f f) ∧ SV (fop .sub f f) = 0 := by
  have h := sub_rd hf hf (by rw [Int.sub_self]; exact Nat.zero_le _)
  rw [Int.sub_self] at h
  exact ⟨h.fin, h.zero⟩
theorem mul_zero {z t : Nat} (hz : Fin32 z) (h : SV z = 0) (ht : Fin32 t) (h0 : 0 ≤ SV t) (h1 : SV t ≤ 2 ^ 149) : Fin32 (fop .mul z t) ∧ SV (fop .mul z t) = 0 := by
  obtain ⟨a, b, c⟩ := mul_unit hz ht h0 h1
  have := b (by omega)
  exact ⟨a, by omega⟩
theorem add_zero {f z : Nat} (hf : Fin32 f) (hz : Fin32 z) (h : SV z = 0) : Fin32 (fop .add f z) ∧ SV (fop .add f z) = SV f := by
  have hr := add_rd hf hz (by rw [h, Int.add_zero]; exact SV_fin hf)
  exact ⟨hr.fin, hr.eq (by rw [h, Int.add_zero])⟩
theorem share_self {f t : Nat} (hf : Fin32 f) (ht : Fin32 t) (h0 : 0 < SV t) (h1 : SV t < 2 ^ 149) : Fin32 (share f f t) ∧ SV (share f f t) = SV f := by
  obtain ⟨a1, a2⟩ := sub_self hf
  obtain ⟨b1, b2⟩ := mul_zero a1 a2 ht (Int.le_of_lt h0) (Int.le_of_lt h1)
  exact add_zero hf b1 b2
theorem mixS_self {f : Nat} (t : Nat) (hf : Fin32 f) : Fin32 (mixS f f t) ∧ SV (mixS f f t) = SV f := by
  unfold mixS
  cases h0 : fcmp .gtr t 0
  · rw [if_neg Bool.false_ne_true]
    exact ⟨hf, rfl⟩
  · rw [if_pos rfl]
    cases h1 : fcmp .geq t 1065353216
    · rw [if_neg Bool.false_ne_true]
      obtain ⟨a, b, c⟩ := unit_of h0 h1
      exact share_self hf a b c
    · rw [if_pos rfl]
      exact ⟨hf, rfl⟩
theorem fin_180 : Fin32 1127481344 := by unfold Fin32 rung; decide
theorem fin_m180 : Fin32 3274964992 := by unfold Fin32 rung; decide
theorem fin_360 : Fin32 1135869952 := by unfold Fin32 rung; decide
theorem SV_180 : SV 1127481344 = 180 * 2 ^ 149 := by decide +kernel
theorem SV_m180 : SV 3274964992 = -180 * 2 ^ 149 := by decide +kernel
theorem SV_360 : SV 1135869952 = 360 * 2 ^ 149 := by decide +kernel
/-- An angle: a finite word from 0 to below 360. -/
structure Ang (a : Nat) : Prop where
  fin : Fin32 a
  lo : 0 ≤ SV a
  hi : SV a < 360 * 2 ^ 149
theorem angle_self {a t : Nat} (ha : Ang a) (ht : Fin32 t) (h0 : 0 < SV t) (h1 : SV t < 2 ^ 149) : Fin32 (angle a a t) ∧ SV (angle a a t) = SV a := by
  obtain ⟨a1, a2⟩ := sub_self ha.fin
  have e1 : turned (fop .sub a a) = fop .sub a a := by
    unfold turned
    rw [cmp_gtr a1 fin_180, cmp_lss a1 fin_m180, a2, SV_180, SV_m180, if_neg (by simp), if_neg (by simp)]
  obtain ⟨b1, b2⟩ := mul_zero a1 a2 ht (Int.le_of_lt h0) (Int.le_of_lt h1)
  obtain ⟨c1, c2⟩ := add_zero ha.fin b1 b2
  have hl := ha.lo
  have hh := ha.hi
  unfold angle
  rw [e1]
  have e2 : under (fop .add a (fop .mul (fop .sub a a) t)) = fop .add a (fop .mul (fop .sub a a) t) := by
    unfold under
    rw [cmp_geq c1 fin_360, c2, SV_360, if_neg (by simp; omega)]
  rw [e2]
  have e3 : over (fop .add a (fop .mul (fop .sub a a) t)) = fop .add a (fop .mul (fop .sub a a) t) := by
    unfold over
    rw [cmp_lss c1 fin_0, c2, SV_0, if_neg (by simp; omega)]
  rw [e3]
  exact ⟨c1, c2⟩
theorem mixA_self {a : Nat} (t : Nat) (ha : Ang a) : Fin32 (mixA a a t) ∧ SV (mixA a a t) = SV a := by
  unfold mixA
  cases h0 : fcmp .gtr t 0
  · rw [if_neg Bool.false_ne_true]
    exact ⟨ha.fin, rfl⟩
  · rw [if_pos rfl]
    cases h1 : fcmp .geq t 1065353216
    · rw [if_neg Bool.false_ne_true]
      obtain ⟨a, b, c⟩ := unit_of h0 h1
      exact angle_self ha a b c
    · rw [if_pos rfl]
      exact ⟨ha.fin, rfl⟩

/-! ### Of gives numbers -/
theorem ang_256 : (List.range 256).all (fun n => decide (rung (angF (n : Int)) < 2139095040) && decide (0 ≤ SV (angF (n : Int))) && decide (SV (angF (n : Int)) < 360 * 2 ^ 149)) = true := by kernel_rfl
theorem ang_of (h : Int) : Ang (angF (Go.bits .and .i64 h 255)) := by
  obtain ⟨h0, h1⟩ := and_255 h
  obtain ⟨n, hn⟩ := Int.eq_ofNat_of_zero_le h0
  rw [hn] at h1 ⊢
  have := List.all_eq_true.1 ang_256 n (by simp; omega)
  simp only [Bool.and_eq_true, decide_eq_true_eq] at this
  exact ⟨this.1.1, this.1.2, this.2⟩
theorem RG_log (c X : Nat) : RG c X ≤ (X.log2 - (23 + c)) * 8388608 + 16777216 := by
  have := RG_le c X
  unfold RG
  unfold eu at this ⊢
  omega
/-- A number below 2 ^ 100 is written as a finite word. -/
theorem nearest_fin (neg : Bool) (m : Nat) (p : Int) (h : (m.log2 : Int) + p ≤ 100) : Fin32 (Ieee.single.nearest neg m p) := by
  rw [nearest_RG neg m (-149 - p).toNat p (p + 149 + ((-149 - p).toNat : Int)).toNat (by omega)]
  have hb : RG (-149 - p).toNat (m * 2 ^ (p + 149 + ((-149 - p).toNat : Int)).toNat) < 2139095040 := by
    refine Nat.lt_of_le_of_lt (RG_log _ _) ?_
    rcases Nat.eq_zero_or_pos m with rfl | hm
    · simp
    · rw [log2_mul_pow _ _ (by omega)]
      omega
  rw [Nat.min_eq_left (by omega)]
  unfold Fin32
  rw [word_rung _ (by omega)]
  exact hb
theorem log2_div {a : Nat} (ha : 8388608 ≤ a) : (a / 8388608).log2 + 23 = a.log2 := by
  have h1 : a / 8388608 ≠ 0 := by omega
  have h2 := Nat.log2_self_le h1
  have h3 : a / 8388608 < 2 ^ ((a / 8388608).log2 + 1) := Nat.lt_log2_self
  refine ((Nat.log2_eq_iff (by omega)).2 ⟨?_, ?_⟩).symm
  · rw [Nat.pow_add]
    omega
  · rw [show (a / 8388608).log2 + 23 + 1 = ((a / 8388608).log2 + 1) + 23 by omega, Nat.pow_add]
    omega
theorem fix_fin (n : Int) (h0 : -9223372036854775808 ≤ n) (h1 : n ≤ 9223372036854775807) : Fin32 (fixF n) := by
  have e : floatOfInt .f32 n = Ieee.single.nearest (decide (n < 0)) n.natAbs 0 := rfl
  have hz : Fin32 (floatOfInt .f32 n) := by
    rw [e]
    refine nearest_fin _ _ _ ?_
    rcases Nat.eq_zero_or_pos n.natAbs with h | h
    · rw [h]; simp
    · have := (Nat.log2_lt (n := n.natAbs) (k := 64) (by omega)).2 (by omega)
      omega
  have hv : VAL (rung (floatOfInt .f32 n)) < 2 ^ 213 := by
    have hr : rung (floatOfInt .f32 n) ≤ 1593835520 := by
      rw [e, nearest_RG _ _ 0 0 149 (by omega)]
      have : RG 0 (n.natAbs * 2 ^ 149) ≤ 1593835520 := RG_up (by
        have : VAL 1593835520 = 2 ^ 63 * 2 ^ 149 := by decide +kernel
        rw [this, Nat.pow_zero, Nat.mul_one]
        exact Nat.mul_le_mul_right _ (by omega))
      rw [Nat.min_eq_left (by omega), word_rung _ (by omega)]
      exact this
    have : VAL 1593835520 < 2 ^ 213 := by decide +kernel
    exact Nat.lt_of_le_of_lt (VAL_le hr) this
  obtain ⟨m, j, er, hm⟩ := read_fin hz
  have e2 : Ieee.single.read 1199570944 = .number false 8388608 (-7) := by decide +kernel
  unfold fixF fop floatBits
  show Fin32 ((Ieee.single.div _ _).getD _)
  unfold Ieee.Format.div
  rw [er, e2]
  have e5 : Ieee.single.fractionBits = 23 := by decide
  simp only [Ieee.Datum.quotient, e5]
  rw [if_neg (by decide)]
  simp only [Option.map_some, Option.getD_some, Ieee.Format.write]
  refine nearest_fin _ _ _ ?_
  have el : Nat.log2 8388608 = 23 := by decide +kernel
  rw [el, Nat.shiftLeft_eq]
  rcases Nat.eq_zero_or_pos m with rfl | hm0
  · have hj : j ≤ 300 ∨ 300 < j := by omega
    simp only [Nat.zero_mul, Nat.zero_div, Nat.zero_mod]
    have : VAL (rung (floatOfInt .f32 n)) = 0 := by rw [← hm]; simp
    have hr0 : rung (floatOfInt .f32 n) = 0 := VAL_inj (by rw [this]; rfl)
    -- a zero is read at the least place
    have hread : Ieee.single.read (floatOfInt .f32 n) = .number (sgn (floatOfInt .f32 n)) 0 (-149) := by
      have e1 : Ieee.single.signWeight = 2147483648 := by decide
      have e2 : Ieee.single.binade = 8388608 := by decide
      have e4 : Ieee.single.leastPlace = -149 := by decide
      unfold rung at hr0
      unfold Ieee.Format.read
      dsimp only
      rw [e1, e2, e4, hr0, if_pos (by decide)]
      rfl
    rw [hread] at er
    injection er with _ _ e3
    have hj0 : j = 0 := by omega
    subst hj0
    have l2 : Nat.log2 0 = 0 := by decide
    simp [l2]
  · have hlm : m.log2 + j ≤ 212 := by
      rw [← log2_mul_pow m j (by omega), hm]
      have := (Nat.log2_lt (n := VAL (rung (floatOfInt .f32 n))) (k := 213) (by have := Nat.mul_pos hm0 (Nat.two_pow_pos j); omega)).2 hv
      omega
    generalize hmore : 23 + 2 + 23 - m.log2 = more
    have hd : (m * 2 ^ more).log2 = m.log2 + more := log2_mul_pow m more (by omega)
    have hbit : (m * 2 ^ more % 8388608 != 0).toNat ≤ 1 := Bool.toNat_le _
    generalize (m * 2 ^ more % 8388608 != 0).toNat = bit at hbit
    rcases Nat.lt_or_ge (m * 2 ^ more) 8388608 with hs | hs
    · rw [Nat.div_eq_of_lt hs]
      have : (2 * 0 + bit).log2 = 0 := by
        have : bit = 0 ∨ bit = 1 := by omega
        rcases this with rfl | rfl <;> decide
      rw [this]
      omega
    · have h2 := log2_div hs
      have h3 : (2 * (m * 2 ^ more / 8388608) + bit).log2 ≤ (m * 2 ^ more / 8388608).log2 + 1 := by
        have hq : m * 2 ^ more / 8388608 ≠ 0 := by omega
        have h4 : m * 2 ^ more / 8388608 < 2 ^ ((m * 2 ^ more / 8388608).log2 + 1) := Nat.lt_log2_self
        have := (Nat.log2_lt (n := 2 * (m * 2 ^ more / 8388608) + bit) (k := (m * 2 ^ more / 8388608).log2 + 2) (by omega)).2 (by rw [show (m * 2 ^ more / 8388608).log2 + 2 = ((m * 2 ^ more / 8388608).log2 + 1) + 1 by omega, Nat.pow_succ]; omega)
        omega
      omega

/-! ### Places that are numbers -/
structure PN (p : P3) : Prop where
  x : Fin32 p.x
  y : Fin32 p.y
  a : Ang p.a
structure PE (p q : P3) : Prop where
  x : ford p.x q.x = some .eq
  y : ford p.y q.y = some .eq
  a : ford p.a q.a = some .eq
theorem ford_of {x y : Nat} (hx : Fin32 x) (hy : Fin32 y) (h : SV x = SV y) : ford x y = some .eq := by
  rw [ford_fin hx hy, h]
  simp [compare, compareOfLessAndEq]
theorem of_pn (x y h : Int) (x0 : -9223372036854775808 ≤ x) (x1 : x ≤ 9223372036854775807) (y0 : -9223372036854775808 ≤ y) (y1 : y ≤ 9223372036854775807) : PN (ofP x y h) := ⟨fix_fin x x0 x1, fix_fin y y0 y1, ang_of h⟩
/-- What is shown of a thing and itself is where Of shows it. -/
theorem mix_self {p q r : P3} (t : Nat) (hp : PN p) (hq : PF q (mixP p p t)) (hr : PF r p) : PE q r := by
  obtain ⟨a1, a2⟩ := mixS_self t hp.x
  obtain ⟨b1, b2⟩ := mixS_self t hp.y
  obtain ⟨c1, c2⟩ := mixA_self t hp.a
  have e1 : q.x = mixS p.x p.x t := hq.x.eq (fin_nan a1)
  have e2 : q.y = mixS p.y p.y t := hq.y.eq (fin_nan b1)
  have e3 : q.a = mixA p.a p.a t := hq.a.eq (fin_nan c1)
  have f1 : r.x = p.x := hr.x.eq (fin_nan hp.x)
  have f2 : r.y = p.y := hr.y.eq (fin_nan hp.y)
  have f3 : r.a = p.a := hr.a.eq (fin_nan hp.a.fin)
  refine ⟨?_, ?_, ?_⟩
  · rw [e1, f1]; exact ford_of a1 hp.x a2
  · rw [e2, f2]; exact ford_of b1 hp.y b2
  · rw [e3, f3]; exact ford_of c1 hp.a.fin c2
theorem eq_float_of {P : Program} (w : World) (d : Nat) (t : TypeId) (hu : P.underlying t = some (.float .f32)) (x y : Nat) (h : ford x y = some .eq) : (Op.equalIn (d + 1) t (.float .f32 x) (.float .f32 y)).run P w = .ok true w := by
  unfold Op.equalIn
  unfold ford at h
  simp [run_underlying hu, Op.floatEq, FloatKind.format, h]
/-! ### No two of which meet -/
def Lone (l : List S5) : Prop := ∀ a, a < l.length → ∀ b, b < a → (l.getD a default).meets (l.getD b default) = false
theorem meets_symm (s r : S5) : s.meets r = r.meets s := by
  unfold S5.meets
  rw [Bool.beq_comm (a := s.ki), Bool.beq_comm (a := s.id)]
theorem meets_self (s : S5) : s.meets s = true := meets_yes rfl rfl
theorem hits_lone {l : List S5} (h : Lone l) (t k : Nat) (hk : k < l.length) : hits (l.getD k default) l t = [mixP (l.getD k default).p (l.getD k default).p t] :=
  hits_some (m := k) (fun j hj => h k hk j hj) hk (meets_self _)
theorem seenB_lone {l : List S5} (h : Lone l) (t : Nat) : ∀ k, k ≤ l.length → seenB (l.take k) l t = (l.take k).map (fun s => mixP s.p s.p t)
  | 0, _ => by simp [seenB]
  | k + 1, hk => by
    rw [seenB_step l l t k (by omega), seenB_lone h t k (by omega), hits_lone h t k (by omega), take_succ_getD l k (by omega), List.map_append]
    rfl
theorem seenB_lone_all {l : List S5} (h : Lone l) (t : Nat) : seenB l l t = l.map (fun s => mixP s.p s.p t) := by
  have := seenB_lone h t l.length (Nat.le_refl _)
  rwa [List.take_length] at this
theorem seenB_empty (l : List S5) (t : Nat) : seenB l [] t = [] := by
  induction l with
  | nil => rfl
  | cons s l ih => simp [seenB, hits]
end Go.Proofs.Ytjffkidfoapbjaa.Fl
