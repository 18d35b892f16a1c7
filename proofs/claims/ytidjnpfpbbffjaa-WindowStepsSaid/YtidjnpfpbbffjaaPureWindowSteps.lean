/- Proved: the plain law of WindowSteps, on numbers and lists. -/
import Derived.Test.YtidjnpfpbbffjaaPWindowStepsx4
import Derived.KernelRfl
import Derived.OpenShut
import Derived.Laws.BitsLemmas
namespace Go.Proofs.Ytidjnpfpbbffjaa.Pure
open Go.RowKit Go.Proofs.Ytidjnpfpbbffjaa.PWindowSteps Go.Proofs.YtidjnpfpbbffjaaW.PrintWords Go.Proofs.YtidjnpfpbbffjaaW.PrintLast

theorem w64 {x : Int} (h : -9223372036854775808 ≤ x) (h' : x ≤ 9223372036854775807) : wrap64 x = x := by
  unfold wrap64
  omega

theorem wu64 {x : Int} (h : 0 ≤ x) (h' : x ≤ 18446744073709551615) : IntKind.u64.wrap x = x := by
  show x % 18446744073709551616 = x
  omega

theorem wu64_add {x : Int} (h : -18446744073709551616 ≤ x) (h' : x < 0) : IntKind.u64.wrap x = x + 18446744073709551616 := by
  show x % 18446744073709551616 = _
  omega

/-- A shift to the left, in 64 bits. -/
def shlN (x n : Nat) : Nat := (x * 2 ^ min n 64) % 2 ^ 64

theorem shl_nat (x n : Nat) : shl .u64 (x : Int) (n : Int) = (shlN x n : Nat) := by
  unfold shl shlN
  show (((x : Int) * 2 ^ min (n : Int).toNat 64) % 18446744073709551616 : Int) = _
  simp only [Int.toNat_natCast]
  have e : ((x : Int) * 2 ^ min n 64) = ((x * 2 ^ min n 64 : Nat) : Int) := by simp [Int.natCast_mul, Int.natCast_pow]
  rw [e]
  have e2 : (2 : Nat) ^ 64 = 18446744073709551616 := rfl
  rw [e2]
  omega

theorem shlN_lt (x n : Nat) : shlN x n < 2 ^ 64 := Nat.mod_lt _ (by decide)

theorem shlN_bit (x n j : Nat) (hn : n ≤ 64) : (shlN x n).testBit j = (decide (j < 64) && (decide (n ≤ j) && x.testBit (j - n))) := by
  unfold shlN
  rw [Nat.testBit_mod_two_pow, ← Nat.shiftLeft_eq, Nat.testBit_shiftLeft, Nat.min_eq_left hn]

theorem or_nat (a b : Nat) (ha : a < 2 ^ 64) (hb : b < 2 ^ 64) : Go.bits .or .u64 (a : Int) (b : Int) = ((a ||| b : Nat) : Int) :=
  (bits_nat .u64 64 (Nat.le_refl _) (fun n h0 h1 => wu64 h0 (by have : ((2 : Int) ^ 64) = 18446744073709551616 := rfl; omega)) a b ha hb).2

theorem and_nat (a b : Nat) (ha : a < 2 ^ 64) (hb : b < 2 ^ 64) : Go.bits .and .u64 (a : Int) (b : Int) = ((a &&& b : Nat) : Int) :=
  (bits_nat .u64 64 (Nat.le_refl _) (fun n h0 h1 => wu64 h0 (by have : ((2 : Int) ^ 64) = 18446744073709551616 := rfl; omega)) a b ha hb).1

theorem bit_int (x n : Nat) (hx : x < 2 ^ 64) (hn : n < 64) : Go.bits .and .u64 (shr .u64 (x : Int) (n : Int)) 1 = if x.testBit n = true then 1 else 0 := by
  have e : shr .u64 (x : Int) (n : Int) = ((x / 2 ^ n : Nat) : Int) := by
    unfold shr
    show (x : Int) / 2 ^ min (n : Int).toNat 64 = _
    rw [Int.toNat_natCast, Nat.min_eq_left (by omega)]
    simp
  have hd : x / 2 ^ n < 2 ^ 64 := Nat.lt_of_le_of_lt (Nat.div_le_self _ _) hx
  have h1 := and_nat (x / 2 ^ n) 1 hd (by decide)
  rw [e]
  have e1 : ((1 : Nat) : Int) = 1 := rfl
  rw [e1] at h1
  rw [h1, Nat.and_one_is_mod]
  have hb : x.testBit n = decide (x / 2 ^ n % 2 = 1) := by rw [Nat.testBit_eq_decide_div_mod_eq]
  rw [hb]
  by_cases c : x / 2 ^ n % 2 = 1
  · simp [c]
  · have : x / 2 ^ n % 2 = 0 := by omega
    simp [this]

theorem two_pow_lt (n : Nat) (hn : n < 64) : 2 ^ n < 2 ^ 64 := Nat.pow_lt_pow_right (by decide) hn

theorem one_shl (n : Nat) (hn : n < 64) : shl .u64 1 (n : Int) = ((2 ^ n : Nat) : Int) := by
  have h := shl_nat 1 n
  have e : shlN 1 n = 2 ^ n := by
    unfold shlN
    rw [Nat.one_mul, Nat.min_eq_left (by omega), Nat.mod_eq_of_lt (two_pow_lt n hn)]
  rw [e] at h
  exact h

theorem num_ok (e : Int) : joustlaw09_num.f e = some e := rfl
theorem high_ok (h b : Int) : window_Window_High.f h b = some h := rfl
theorem bits_ok (h b : Int) : window_Window_Bits.f h b = some b := rfl

set_option linter.unusedVariables false
theorem check_far (k : Nat) (hk : 0 < k) (hi bi s : Nat) (hh : hi < 18446744073709551616) (hb : bi < 2 ^ 64) (hs : s < 18446744073709551616) (h : hi < s) (h' : 64 < s - hi) : window_Window_Check.f k hi bi s = some 92 := by
  obtain ⟨k, rfl⟩ : ∃ j, k = j + 1 := ⟨k - 1, by omega⟩
  have e : IntKind.u64.wrap ((s : Int) - hi) = (s : Int) - hi := wu64 (by omega) (by omega)
  unfold window_Window_Check.f
  rw [if_pos (by omega), e]
  have d : decide ((s : Int) - hi > 64) = true := by simp; omega
  rw [d]
  simp only [window_Window_Check.j0]
  rw [if_pos trivial]
theorem check_up (k : Nat) (hk : 0 < k) (hi bi s : Nat) (hh : hi < 18446744073709551616) (hb : bi < 2 ^ 64) (hs : s < 18446744073709551616) (h : hi < s) (h' : s - hi ≤ 64) : window_Window_Check.f k hi bi s = some 0 := by
  obtain ⟨k, rfl⟩ : ∃ j, k = j + 1 := ⟨k - 1, by omega⟩
  have e : IntKind.u64.wrap ((s : Int) - hi) = (s : Int) - hi := wu64 (by omega) (by omega)
  unfold window_Window_Check.f
  rw [if_pos (by omega), e]
  have d : decide ((s : Int) - hi > 64) = false := by simp; omega
  rw [d]
  simp only [window_Window_Check.j0]
  rw [if_neg (by simp), if_pos (by omega)]
theorem check_zero (k : Nat) (hk : 0 < k) (hi bi s : Nat) (hh : hi < 18446744073709551616) (hb : bi < 2 ^ 64) (hs : s < 18446744073709551616) (h : s = 0) : window_Window_Check.f k hi bi s = some 90 := by
  obtain ⟨k, rfl⟩ : ∃ j, k = j + 1 := ⟨k - 1, by omega⟩
  unfold window_Window_Check.f
  rw [if_neg (by omega)]
  simp only [window_Window_Check.j0]
  rw [if_neg (by simp), if_neg (by omega), if_pos (by omega)]
theorem check_old (k : Nat) (hk : 0 < k) (hi bi s : Nat) (hh : hi < 18446744073709551616) (hb : bi < 2 ^ 64) (hs : s < 18446744073709551616) (h : s ≤ hi) (h' : 64 ≤ hi - s) : window_Window_Check.f k hi bi s = some 90 := by
  obtain ⟨k, rfl⟩ : ∃ j, k = j + 1 := ⟨k - 1, by omega⟩
  have e : IntKind.u64.wrap ((hi : Int) - s) = (hi : Int) - s := wu64 (by omega) (by omega)
  unfold window_Window_Check.f
  rw [if_neg (by omega)]
  simp only [window_Window_Check.j0]
  rw [if_neg (by simp), if_neg (by omega), e]
  by_cases c : (s : Int) = 0
  · rw [if_pos c]
  · rw [if_neg c, if_pos (by omega)]
theorem check_in (k : Nat) (hk : 0 < k) (hi bi s : Nat) (hh : hi < 18446744073709551616) (hb : bi < 2 ^ 64) (hs : s < 18446744073709551616) (h0 : 0 < s) (h : s ≤ hi) (h' : hi - s < 64) : window_Window_Check.f k hi bi s = some (if bi.testBit (hi - s) = true then 91 else 0) := by
  obtain ⟨k, rfl⟩ : ∃ j, k = j + 1 := ⟨k - 1, by omega⟩
  have e : IntKind.u64.wrap ((hi : Int) - s) = ((hi - s : Nat) : Int) := by rw [wu64 (by omega) (by omega)]; omega
  unfold window_Window_Check.f
  rw [if_neg (by omega)]
  simp only [window_Window_Check.j0]
  rw [if_neg (by simp), if_neg (by omega), e, if_neg (by omega), if_neg (by omega), if_pos (by omega), bit_int bi (hi - s) hb h']
  by_cases c : bi.testBit (hi - s) = true
  · simp [c]
  · simp [c]
theorem mark_far (k : Nat) (hk : 0 < k) (hi bi s : Nat) (hh : hi < 18446744073709551616) (hb : bi < 2 ^ 64) (hs : s < 18446744073709551616) (h : hi < s) (h' : 64 < s - hi) : window_Window_Mark.f k hi bi s = some (92, (hi : Int), (bi : Int)) := by
  obtain ⟨k, rfl⟩ : ∃ j, k = j + 1 := ⟨k - 1, by omega⟩
  unfold window_Window_Mark.f
  rw [check_far (k + 1) hk hi bi s hh hb hs h h']
  rfl
theorem mark_zero (k : Nat) (hk : 0 < k) (hi bi s : Nat) (hh : hi < 18446744073709551616) (hb : bi < 2 ^ 64) (hs : s < 18446744073709551616) (h : s = 0) : window_Window_Mark.f k hi bi s = some (90, (hi : Int), (bi : Int)) := by
  obtain ⟨k, rfl⟩ : ∃ j, k = j + 1 := ⟨k - 1, by omega⟩
  unfold window_Window_Mark.f
  rw [check_zero (k + 1) hk hi bi s hh hb hs h]
  rfl
theorem mark_old (k : Nat) (hk : 0 < k) (hi bi s : Nat) (hh : hi < 18446744073709551616) (hb : bi < 2 ^ 64) (hs : s < 18446744073709551616) (h : s ≤ hi) (h' : 64 ≤ hi - s) : window_Window_Mark.f k hi bi s = some (90, (hi : Int), (bi : Int)) := by
  obtain ⟨k, rfl⟩ : ∃ j, k = j + 1 := ⟨k - 1, by omega⟩
  unfold window_Window_Mark.f
  rw [check_old (k + 1) hk hi bi s hh hb hs h h']
  rfl
theorem mark_seen (k : Nat) (hk : 0 < k) (hi bi s : Nat) (hh : hi < 18446744073709551616) (hb : bi < 2 ^ 64) (hs : s < 18446744073709551616) (h0 : 0 < s) (h : s ≤ hi) (h' : hi - s < 64) (hx : bi.testBit (hi - s) = true) : window_Window_Mark.f k hi bi s = some (91, (hi : Int), (bi : Int)) := by
  obtain ⟨k, rfl⟩ : ∃ j, k = j + 1 := ⟨k - 1, by omega⟩
  unfold window_Window_Mark.f
  rw [check_in (k + 1) hk hi bi s hh hb hs h0 h h', if_pos hx]
  rfl
theorem mark_new (k : Nat) (hk : 0 < k) (hi bi s : Nat) (hh : hi < 18446744073709551616) (hb : bi < 2 ^ 64) (hs : s < 18446744073709551616) (h0 : 0 < s) (h : s ≤ hi) (h' : hi - s < 64) (hx : bi.testBit (hi - s) = false) : window_Window_Mark.f k hi bi s = some (0, (hi : Int), ((bi ||| 2 ^ (hi - s) : Nat) : Int)) := by
  obtain ⟨k, rfl⟩ : ∃ j, k = j + 1 := ⟨k - 1, by omega⟩
  have e : IntKind.u64.wrap ((hi : Int) - s) = ((hi - s : Nat) : Int) := by rw [wu64 (by omega) (by omega)]; omega
  unfold window_Window_Mark.f
  rw [check_in (k + 1) hk hi bi s hh hb hs h0 h h', if_neg (by simp [hx])]
  simp only [Option.bind_some, if_true]
  rw [if_neg (by omega), e, if_pos (by omega), one_shl _ h', or_nat bi _ hb (two_pow_lt _ h')]
theorem mark_up (k : Nat) (hk : 0 < k) (hi bi s : Nat) (hh : hi < 18446744073709551616) (hb : bi < 2 ^ 64) (hs : s < 18446744073709551616) (h : hi < s) (h' : s - hi ≤ 64) : window_Window_Mark.f k hi bi s = some (0, (s : Int), ((shlN bi (s - hi) ||| 1 : Nat) : Int)) := by
  obtain ⟨k, rfl⟩ : ∃ j, k = j + 1 := ⟨k - 1, by omega⟩
  have e : IntKind.u64.wrap ((s : Int) - hi) = ((s - hi : Nat) : Int) := by rw [wu64 (by omega) (by omega)]; omega
  have e0 : IntKind.u64.wrap ((s : Int) - s) = ((0 : Nat) : Int) := by rw [wu64 (by omega) (by omega)]; omega
  unfold window_Window_Mark.f
  rw [check_up (k + 1) hk hi bi s hh hb hs h h']
  simp only [Option.bind_some, if_true]
  rw [if_pos (by omega), e, if_pos (by omega), e0, if_pos (by omega), shl_nat, one_shl 0 (by omega), or_nat _ _ (shlN_lt _ _) (two_pow_lt 0 (by omega))]


theorem alive_ok : joustlaw09_alive.f 4 = some true := by kernel_rfl
theorem alive_at (k : Nat) (hk : 4 ≤ k) : joustlaw09_alive.f k = some true := at_rounds (g := fun k => joustlaw09_alive.f k) joustlaw09_alive.mono hk alive_ok

/-- A step of a walk: 1 to 64 up. -/
theorem step_val (x : Int) (h0 : 0 ≤ x) (h1 : x ≤ 255) : Int.tmod (IntKind.u64.wrap x) 64 = ((x.toNat % 64 : Nat) : Int) := by
  rw [wu64 h0 (by omega), Int.tmod_eq_emod_of_nonneg h0]
  omega

theorem walk_ok (l : List Int) (hl : ∀ x ∈ l, 0 ≤ x ∧ x ≤ 255) (hlen : l.length ≤ 200) (d : Nat) : ∀ (k i hi bi : Nat), i + d = l.length → d + 2 < k → hi ≤ 64 * i → bi < 2 ^ 64 →
    ∃ hi' bi' : Nat, joustlaw09_walk.l0 k l (i : Int) hi bi = some (true, (hi' : Int), (bi' : Int)) ∧ hi' ≤ 12800 ∧ bi' < 2 ^ 64 ∧ (0 < l.length → d = 0 ∨ 0 < hi') := by
  induction d with
  | zero =>
    intro k i hi bi hi' hk hh hb
    obtain ⟨k, rfl⟩ : ∃ j, k = j + 1 := ⟨k - 1, by omega⟩
    refine ⟨hi, bi, ?_, by omega, hb, fun _ => .inl rfl⟩
    simp only [joustlaw09_walk.l0]
    rw [if_neg (by omega)]
  | succ d ih =>
    intro k i hi bi hi' hk hh hb
    obtain ⟨k, rfl⟩ : ∃ j, k = j + 1 := ⟨k - 1, by omega⟩
    have hlt : i < l.length := by omega
    have hx := hl l[i] (List.getElem_mem hlt)
    have er : rd l (i : Int) = l[i] := by unfold rd; simp [hlt]
    have es : IntKind.u64.wrap (IntKind.u64.wrap ((hi : Int) + 1) + Int.tmod (IntKind.u64.wrap (rd l (i : Int))) 64) = ((hi + 1 + l[i].toNat % 64 : Nat) : Int) := by
      rw [er, step_val _ hx.1 hx.2, wu64 (x := (hi : Int) + 1) (by omega) (by omega), wu64 (by omega) (by omega)]
      omega
    have hm := mark_up k (by omega) hi bi (hi + 1 + l[i].toNat % 64) (by omega) hb (by omega) (by omega) (by omega)
    obtain ⟨h2, b2, e2, q1, q2, q3⟩ := ih k (i + 1) (hi + 1 + l[i].toNat % 64) _ (by omega) (by omega) (by omega) (Nat.or_lt_two_pow (shlN_lt bi (hi + 1 + l[i].toNat % 64 - hi)) (by decide : 1 < 2 ^ 64))
    refine ⟨h2, b2, ?_, q1, q2, fun h => .inr ?_⟩
    · simp only [joustlaw09_walk.l0]
      rw [if_pos (by omega), high_ok]
      simp only [Option.bind_some]
      rw [if_pos (by omega), es, hm]
      simp only [Option.bind_some, num_ok, if_true]
      have ei : ((i + 1 : Nat) : Int) = (i : Int) + 1 := by omega
      rw [ei] at e2
      rw [w64 (by omega) (by omega)]
      exact e2
    · rcases q3 h with rfl | h3
      · obtain ⟨k, rfl⟩ : ∃ j, k = j + 1 := ⟨k - 1, by omega⟩
        simp only [joustlaw09_walk.l0] at e2
        rw [if_neg (by omega)] at e2
        simp only [Option.some.injEq, Prod.mk.injEq] at e2
        omega
      · exact h3

theorem wrap_succ (i : Nat) (h : i < 9223372036854775807) : wrap64 ((i : Int) + 1) = ((i + 1 : Nat) : Int) := by
  rw [w64 (by omega) (by omega)]
  omega

theorem pow_int (n : Nat) : 2 ^ n < 2 ^ 64 ↔ n < 64 := Nat.pow_lt_pow_iff_right (by decide)

theorem and_pow_zero (x n : Nat) : (x &&& 2 ^ n = 0) ↔ x.testBit n = false := by
  constructor
  · intro h
    have h1 : (x &&& 2 ^ n).testBit n = false := by rw [h]; simp
    rw [Nat.testBit_and, Nat.testBit_two_pow_self, Bool.and_true] at h1
    exact h1
  · intro h
    apply Nat.eq_of_testBit_eq
    intro j
    rw [Nat.testBit_and, Nat.testBit_two_pow, Nat.zero_testBit]
    by_cases c : n = j
    · subst c
      simp [h]
    · simp [c]

theorem or_pow_same (x n : Nat) (h : x.testBit n = true) : x ||| 2 ^ n = x := by
  apply Nat.eq_of_testBit_eq
  intro j
  rw [Nat.testBit_or, Nat.testBit_two_pow]
  by_cases c : n = j
  · subst c
    simp [h]
  · simp [c]

theorem end_ok (k : Nat) (hk : 3 < k) (n hi bi : Nat) (hn0 : 1 ≤ n) (hn1 : n ≤ 64) (hh : hi ≤ 12800) (hb : bi < 2 ^ 64) :
    joustlaw09_WindowSteps.j3 k (n : Int) (bi : Int) (hi : Int) false (hi : Int) (bi : Int) (hi : Int) (bi : Int) = some true := by
  obtain ⟨k, rfl⟩ : ∃ j, k = j + 1 := ⟨k - 1, by omega⟩
  have ew : IntKind.u64.wrap ((hi : Int) + n) = ((hi + n : Nat) : Int) := by rw [wu64 (by omega) (by omega)]; omega
  have hm := mark_up k (by omega) hi bi (hi + n) (by omega) hb (by omega) (by omega) (by omega)
  have en : hi + n - hi = n := by omega
  rw [en] at hm
  have hb2 : shlN bi n ||| 1 < 2 ^ 64 := Nat.or_lt_two_pow (shlN_lt bi n) (by decide)
  have ho : Go.bits .or .u64 (shl .u64 (bi : Int) (n : Int)) 1 = ((shlN bi n ||| 1 : Nat) : Int) := by
    rw [shl_nat]
    exact or_nat _ 1 (shlN_lt _ _) (by decide)
  have j4 : joustlaw09_WindowSteps.j4 k (n : Int) (bi : Int) (hi : Int) false ((hi + n : Nat) : Int) ((shlN bi n ||| 1 : Nat) : Int) (hi : Int) (bi : Int) = some true := by
    obtain ⟨k, rfl⟩ : ∃ j, k = j + 1 := ⟨k - 1, by omega⟩
    have c1 := check_up k (by omega) hi bi (hi + n) (by omega) hb (by omega) (by omega) (by omega)
    have c2 := check_in k (by omega) (hi + n) (shlN bi n ||| 1) (hi + n) (by omega) hb2 (by omega) (by omega) (by omega) (by omega)
    have tb : (shlN bi n ||| 1).testBit (hi + n - (hi + n)) = true := by
      rw [Nat.sub_self, Nat.testBit_or]
      simp
    rw [if_pos tb] at c2
    simp only [joustlaw09_WindowSteps.j4]
    rw [if_neg (by simp), high_ok]
    simp only [Option.bind_some, if_true]
    rw [bits_ok]
    simp only [Option.bind_some, if_true]
    rw [ew, c1, c2]
    rfl
  simp only [joustlaw09_WindowSteps.j3]
  rw [if_neg (by simp), ew, hm]
  simp only [Option.bind_some, num_ok, high_ok, bits_ok, if_true]
  rw [if_pos (by omega), ho]
  have eb : (((shlN bi n ||| 1 : Nat) : Int) != ((shlN bi n ||| 1 : Nat) : Int)) = false := by simp
  rw [eb]
  exact j4

set_option maxHeartbeats 1000000 in
theorem below_ok (l : List Int) (hl : ∀ x ∈ l, 0 ≤ x ∧ x ≤ 255) (hlen : l.length ≤ 9223372036854775807) (by_ far : Nat) (h1 : by_ ≤ 255) (h2 : far < 18446744073709551616) (d : Nat) : ∀ (k i hi bi : Nat), i + d = l.length → 2 * d + 10 < k → hi ≤ 12800 → bi < 2 ^ 64 →
    joustlaw09_WindowSteps.l0 k l (by_ : Int) (far : Int) (i : Int) (hi : Int) (bi : Int) = some true := by
  induction d with
  | zero =>
    intro k i hi bi hid hk hh hb
    obtain ⟨k, rfl⟩ : ∃ j, k = j + 1 := ⟨k - 1, by omega⟩
    have en : (1 + Int.tmod (by_ : Int) 64) % 256 = ((1 + by_ % 64 : Nat) : Int) := by
      rw [Int.tmod_eq_emod_of_nonneg (by omega)]
      omega
    have he := end_ok k (by omega) (1 + by_ % 64) hi bi (by omega) (by omega) hh hb
    simp only [joustlaw09_WindowSteps.l0]
    rw [if_neg (by omega), bits_ok]
    simp only [Option.bind_some, high_ok]
    rw [en]
    by_cases c : (far : Int) > hi
    · rw [if_pos c, wu64 (by omega) (by omega)]
      by_cases c2 : (far : Int) - hi > 64
      · have hm := mark_far k (by omega) hi bi far (by omega) hb h2 (by omega) (by omega)
        rw [if_pos c2, hm]
        simp only [Option.bind_some, num_ok, bits_ok, if_true]
        have eb : ((hi : Int) != (hi : Int)) = false := by simp
        rw [eb]
        exact he
      · rw [if_neg c2]
        exact he
    · rw [if_neg c]
      exact he
  | succ d ih =>
    intro k i hi bi hid hk hh hb
    obtain ⟨k, rfl⟩ : ∃ j, k = j + 1 := ⟨k - 1, by omega⟩
    have hlt : i < l.length := by omega
    have hx := hl l[i] (List.getElem_mem hlt)
    have er : rd l (i : Int) = l[i] := by unfold rd; simp [hlt]
    have sv := step_val _ hx.1 hx.2
    generalize hb_ : l[i].toNat % 64 = b at sv
    have b64 : b < 64 := by omega
    have hi9 : i < 9223372036854775807 := by omega
    simp only [joustlaw09_WindowSteps.l0]
    rw [if_pos (Int.ofNat_lt.mpr hlt), if_pos (Int.natCast_nonneg i), bits_ok]
    simp only [Option.bind_some, high_ok]
    rw [er, sv]
    clear er sv hb_ hx
    have stay : joustlaw09_WindowSteps.j2 k l (by_ : Int) (far : Int) (i : Int) (hi : Int) false (hi : Int) (bi : Int) = some true := by
      have hn := fun k hk => ih k (i + 1) hi bi (by omega) hk hh hb
      obtain ⟨k, rfl⟩ : ∃ j, k = j + 1 := ⟨k - 1, by omega⟩
      simp only [joustlaw09_WindowSteps.j2]
      rw [if_neg (by simp), high_ok]
      simp only [Option.bind_some, if_true]
      rw [wrap_succ i hi9]
      exact hn k (by omega)
    by_cases c : hi ≤ b
    · by_cases c0 : b = hi
      · have ew : IntKind.u64.wrap ((hi : Int) - b) = ((0 : Nat) : Int) := by rw [wu64 (by omega) (by omega)]; omega
        rw [ew, mark_zero k (by omega) hi bi 0 (by omega) hb (by omega) rfl]
        simp only [Option.bind_some, num_ok]
        rw [if_pos (by omega), if_pos trivial]
        exact stay
      · have ew : IntKind.u64.wrap ((hi : Int) - b) = ((18446744073709551616 + hi - b : Nat) : Int) := by rw [wu64_add (by omega) (by omega)]; omega
        rw [ew, mark_far k (by omega) hi bi (18446744073709551616 + hi - b) (by omega) hb (by omega) (by omega) (by omega)]
        simp only [Option.bind_some, num_ok]
        rw [if_pos (by omega), if_neg (by omega), if_pos trivial]
        exact stay
    · have ew : IntKind.u64.wrap ((hi : Int) - b) = ((hi - b : Nat) : Int) := by rw [wu64 (by omega) (by omega)]; omega
      have e2 : hi - (hi - b) = b := by omega
      have ha := and_nat bi (2 ^ b) hb (two_pow_lt b b64)
      have ho := or_nat bi (2 ^ b) hb (two_pow_lt b b64)
      rw [ew]
      by_cases t : bi.testBit b = true
      · have hm := mark_seen k (by omega) hi bi (hi - b) (by omega) hb (by omega) (by omega) (by omega) (by omega) (by rw [e2]; exact t)
        have hn := ih k (i + 1) hi bi (by omega) (by omega) hh hb
        have nz : bi &&& 2 ^ b ≠ 0 := fun h0 => by rw [(and_pow_zero bi b).1 h0] at t; cases t
        rw [hm]
        simp only [Option.bind_some, num_ok]
        rw [if_neg (by omega), if_pos (by omega), one_shl b b64, ha, ho, or_pow_same bi b t]
        have q : (((91 : Int) == 0) != (((bi &&& 2 ^ b : Nat) : Int) == 0)) = false := by
          have : (((bi &&& 2 ^ b : Nat) : Int) == 0) = false := by
            simp only [beq_eq_false_iff_ne, ne_eq]
            omega
          rw [this]
          rfl
        rw [if_neg (by rw [q]; simp)]
        simp only [bits_ok, Option.bind_some, if_true]
        rw [wrap_succ i hi9]
        exact hn
      · have t' : bi.testBit b = false := by simpa using t
        have hm := mark_new k (by omega) hi bi (hi - b) (by omega) hb (by omega) (by omega) (by omega) (by omega) (by rw [e2]; exact t')
        rw [e2] at hm
        have hn := ih k (i + 1) hi (bi ||| 2 ^ b) (by omega) (by omega) hh (Nat.or_lt_two_pow hb (two_pow_lt b b64))
        have z : bi &&& 2 ^ b = 0 := (and_pow_zero bi b).2 t'
        rw [hm]
        simp only [Option.bind_some, num_ok]
        rw [if_neg (by omega), if_pos (by omega), one_shl b b64, ha, ho, z]
        rw [if_neg (by simp)]
        simp only [bits_ok, Option.bind_some, if_true]
        rw [wrap_succ i hi9]
        exact hn

theorem WindowSteps (l0 l1 : List Int) (a2 a3 : Int) (h0 : ∀ x ∈ l0, 0 ≤ x ∧ x ≤ 255) (h1 : ∀ x ∈ l1, 0 ≤ x ∧ x ≤ 255) (hm : l1.length ≤ 9223372036854775807) (h2 : 0 ≤ a2 ∧ a2 ≤ 255) (h3 : 0 ≤ a3 ∧ a3 ≤ 18446744073709551615) :
    ∃ k, joustlaw09_WindowSteps.f k l0 l1 a2 a3 = some true := by
  obtain ⟨b, rfl⟩ := Int.eq_ofNat_of_zero_le h2.1
  obtain ⟨f, rfl⟩ := Int.eq_ofNat_of_zero_le h3.1
  refine ⟨2 * l1.length + 1000, ?_⟩
  unfold joustlaw09_WindowSteps.f
  rw [alive_at _ (by omega)]
  simp only [Option.bind_some, if_true]
  by_cases c : (l0.length : Int) > 200
  · rw [if_pos c, show 2 * l1.length + 1000 = (2 * l1.length + 999) + 1 from rfl]
    simp only [joustlaw09_WindowSteps.j0]
    simp
    omega
  · rw [if_neg c]
    obtain ⟨hi, bi, e, q1, q2, _⟩ := walk_ok l0 h0 (by omega) l0.length (2 * l1.length + 1000) 0 0 0 (by omega) (by omega) (by omega) (by decide)
    unfold joustlaw09_walk.f
    have e' : joustlaw09_walk.l0 (2 * l1.length + 1000) l0 0 0 0 = some (true, (hi : Int), (bi : Int)) := e
    rw [e']
    simp only [Option.bind_some]
    rw [show 2 * l1.length + 1000 = (2 * l1.length + 999) + 1 from rfl]
    have hl := below_ok l1 h1 hm b f (by omega) (by omega) l1.length (2 * l1.length + 999) 0 hi bi (by omega) (by omega) q1 q2
    simp only [joustlaw09_WindowSteps.j0]
    rw [if_neg (by simp)]
    exact hl

end Go.Proofs.Ytidjnpfpbbffjaa.Pure
