/- what holds of windows -/
import Derived.Test.YtidjnpfpbbffjaaPWindowOncex2
import Derived.KernelRfl
import Derived.OpenShut
import Derived.Laws.BitsLemmas
namespace Go.Proofs.Ytidjnpfpbbffjaa.Pure
open Go.RowKit Go.Proofs.Ytidjnpfpbbffjaa.PWindowOnce Go.Proofs.YtidjnpfpbbffjaaW.PrintWords Go.Proofs.YtidjnpfpbbffjaaW.PrintLast

theorem w64 {x : Int} (h : -9223372036854775808 ≤ x) (h' : x ≤ 9223372036854775807) : wrap64 x = x := by
  unfold wrap64
  omega

theorem wu64 {x : Int} (h : 0 ≤ x) (h' : x ≤ 18446744073709551615) : IntKind.u64.wrap x = x := by
  show x % 18446744073709551616 = x
  omega

theorem wu64_add {x : Int} (h : -18446744073709551616 ≤ x) (h' : x < 0) : IntKind.u64.wrap x = x + 18446744073709551616 := by
  show x % 18446744073709551616 = _
  omega

/-- A shift to the left, in 64 bits. -/
def shlN (x n : Nat) : Nat := (x * 2 ^ min n 64) % 2 ^ 64

theorem shl_nat (x n : Nat) : shl .u64 (x : Int) (n : Int) = (shlN x n : Nat) := by
  unfold shl shlN
  show (((x : Int) * 2 ^ min (n : Int).toNat 64) % 18446744073709551616 : Int) = _
  simp only [Int.toNat_natCast]
  have e : ((x : Int) * 2 ^ min n 64) = ((x * 2 ^ min n 64 : Nat) : Int) := by simp [Int.natCast_mul, Int.natCast_pow]
  rw [e]
  have e2 : (2 : Nat) ^ 64 = 18446744073709551616 := rfl
  rw [e2]
  omega

theorem shlN_lt (x n : Nat) : shlN x n < 2 ^ 64 := Nat.mod_lt _ (by decide)

theorem shlN_bit (x n j : Nat) (hn : n ≤ 64) : (shlN x n).testBit j = (decide (j < 64) && (decide (n ≤ j) && x.testBit (j - n))) := by
  unfold shlN
  rw [Nat.testBit_mod_two_pow, ← Nat.shiftLeft_eq, Nat.testBit_shiftLeft, Nat.min_eq_left hn]

theorem or_nat (a b : Nat) (ha : a < 2 ^ 64) (hb : b < 2 ^ 64) : Go.bits .or .u64 (a : Int) (b : Int) = ((a ||| b : Nat) : Int) :=
  (bits_nat .u64 64 (Nat.le_refl _) (fun n h0 h1 => wu64 h0 (by have : ((2 : Int) ^ 64) = 18446744073709551616 := rfl; omega)) a b ha hb).2

theorem and_nat (a b : Nat) (ha : a < 2 ^ 64) (hb : b < 2 ^ 64) : Go.bits .and .u64 (a : Int) (b : Int) = ((a &&& b : Nat) : Int) :=
  (bits_nat .u64 64 (Nat.le_refl _) (fun n h0 h1 => wu64 h0 (by have : ((2 : Int) ^ 64) = 18446744073709551616 := rfl; omega)) a b ha hb).1

theorem bit_int (x n : Nat) (hx : x < 2 ^ 64) (hn : n < 64) : Go.bits .and .u64 (shr .u64 (x : Int) (n : Int)) 1 = if x.testBit n = true then 1 else 0 := by
  have e : shr .u64 (x : Int) (n : Int) = ((x / 2 ^ n : Nat) : Int) := by
    unfold shr
    show (x : Int) / 2 ^ min (n : Int).toNat 64 = _
    rw [Int.toNat_natCast, Nat.min_eq_left (by omega)]
    simp
  have hd : x / 2 ^ n < 2 ^ 64 := Nat.lt_of_le_of_lt (Nat.div_le_self _ _) hx
  have h1 := and_nat (x / 2 ^ n) 1 hd (by decide)
  rw [e]
  have e1 : ((1 : Nat) : Int) = 1 := rfl
  rw [e1] at h1
  rw [h1, Nat.and_one_is_mod]
  have hb : x.testBit n = decide (x / 2 ^ n % 2 = 1) := by rw [Nat.testBit_eq_decide_div_mod_eq]
  rw [hb]
  by_cases c : x / 2 ^ n % 2 = 1
  · simp [c]
  · have : x / 2 ^ n % 2 = 0 := by omega
    simp [this]

theorem two_pow_lt (n : Nat) (hn : n < 64) : 2 ^ n < 2 ^ 64 := Nat.pow_lt_pow_right (by decide) hn

theorem one_shl (n : Nat) (hn : n < 64) : shl .u64 1 (n : Int) = ((2 ^ n : Nat) : Int) := by
  have h := shl_nat 1 n
  have e : shlN 1 n = 2 ^ n := by
    unfold shlN
    rw [Nat.one_mul, Nat.min_eq_left (by omega), Nat.mod_eq_of_lt (two_pow_lt n hn)]
  rw [e] at h
  exact h

theorem num_ok (e : Int) : joustlaw09_num.f e = some e := rfl
theorem high_ok (h b : Int) : window_Window_High.f h b = some h := rfl
theorem bits_ok (h b : Int) : window_Window_Bits.f h b = some b := rfl

set_option linter.unusedVariables false
theorem check_far (k : Nat) (hk : 0 < k) (hi bi s : Nat) (hh : hi < 18446744073709551616) (hb : bi < 2 ^ 64) (hs : s < 18446744073709551616) (h : hi < s) (h' : 64 < s - hi) : window_Window_Check.f k hi bi s = some 92 := by
  obtain ⟨k, rfl⟩ : ∃ j, k = j + 1 := ⟨k - 1, by omega⟩
  have e : IntKind.u64.wrap ((s : Int) - hi) = (s : Int) - hi := wu64 (by omega) (by omega)
  unfold window_Window_Check.f
  rw [if_pos (by omega), e]
  have d : decide ((s : Int) - hi > 64) = true := by simp; omega
  rw [d]
  simp only [window_Window_Check.j0]
  rw [if_pos trivial]
theorem check_up (k : Nat) (hk : 0 < k) (hi bi s : Nat) (hh : hi < 18446744073709551616) (hb : bi < 2 ^ 64) (hs : s < 18446744073709551616) (h : hi < s) (h' : s - hi ≤ 64) : window_Window_Check.f k hi bi s = some 0 := by
  obtain ⟨k, rfl⟩ : ∃ j, k = j + 1 := ⟨k - 1, by omega⟩
  have e : IntKind.u64.wrap ((s : Int) - hi) = (s : Int) - hi := wu64 (by omega) (by omega)
  unfold window_Window_Check.f
  rw [if_pos (by omega), e]
  have d : decide ((s : Int) - hi > 64) = false := by simp; omega
  rw [d]
  simp only [window_Window_Check.j0]
  rw [if_neg (by simp), if_pos (by omega)]
theorem check_zero (k : Nat) (hk : 0 < k) (hi bi s : Nat) (hh : hi < 18446744073709551616) (hb : bi < 2 ^ 64) (hs : s < 18446744073709551616) (h : s = 0) : window_Window_Check.f k hi bi s = some 90 := by
  obtain ⟨k, rfl⟩ : ∃ j, k = j + 1 := ⟨k - 1, by omega⟩
  unfold window_Window_Check.f
  rw [if_neg (by omega)]
  simp only [window_Window_Check.j0]
  rw [if_neg (by simp), if_neg (by omega), if_pos (by omega)]
theorem check_old (k : Nat) (hk : 0 < k) (hi bi s : Nat) (hh : hi < 18446744073709551616) (hb : bi < 2 ^ 64) (hs : s < 18446744073709551616) (h : s ≤ hi) (h' : 64 ≤ hi - s) : window_Window_Check.f k hi bi s = some 90 := by
  obtain ⟨k, rfl⟩ : ∃ j, k = j + 1 := ⟨k - 1, by omega⟩
  have e : IntKind.u64.wrap ((hi : Int) - s) = (hi : Int) - s := wu64 (by omega) (by omega)
  unfold window_Window_Check.f
  rw [if_neg (by omega)]
  simp only [window_Window_Check.j0]
  rw [if_neg (by simp), if_neg (by omega), e]
  by_cases c : (s : Int) = 0
  · rw [if_pos c]
  · rw [if_neg c, if_pos (by omega)]
theorem check_in (k : Nat) (hk : 0 < k) (hi bi s : Nat) (hh : hi < 18446744073709551616) (hb : bi < 2 ^ 64) (hs : s < 18446744073709551616) (h0 : 0 < s) (h : s ≤ hi) (h' : hi - s < 64) : window_Window_Check.f k hi bi s = some (if bi.testBit (hi - s) = true then 91 else 0) := by
  obtain ⟨k, rfl⟩ : ∃ j, k = j + 1 := ⟨k - 1, by omega⟩
  have e : IntKind.u64.wrap ((hi : Int) - s) = ((hi - s : Nat) : Int) := by rw [wu64 (by omega) (by omega)]; omega
  unfold window_Window_Check.f
  rw [if_neg (by omega)]
  simp only [window_Window_Check.j0]
  rw [if_neg (by simp), if_neg (by omega), e, if_neg (by omega), if_neg (by omega), if_pos (by omega), bit_int bi (hi - s) hb h']
  by_cases c : bi.testBit (hi - s) = true
  · simp [c]
  · simp [c]
theorem mark_far (k : Nat) (hk : 0 < k) (hi bi s : Nat) (hh : hi < 18446744073709551616) (hb : bi < 2 ^ 64) (hs : s < 18446744073709551616) (h : hi < s) (h' : 64 < s - hi) : window_Window_Mark.f k hi bi s = some (92, (hi : Int), (bi : Int)) := by
  obtain ⟨k, rfl⟩ : ∃ j, k = j + 1 := ⟨k - 1, by omega⟩
  unfold window_Window_Mark.f
  rw [check_far (k + 1) hk hi bi s hh hb hs h h']
  rfl
theorem mark_zero (k : Nat) (hk : 0 < k) (hi bi s : Nat) (hh : hi < 18446744073709551616) (hb : bi < 2 ^ 64) (hs : s < 18446744073709551616) (h : s = 0) : window_Window_Mark.f k hi bi s = some (90, (hi : Int), (bi : Int)) := by
  obtain ⟨k, rfl⟩ : ∃ j, k = j + 1 := ⟨k - 1, by omega⟩
  unfold window_Window_Mark.f
  rw [check_zero (k + 1) hk hi bi s hh hb hs h]
  rfl
theorem mark_old (k : Nat) (hk : 0 < k) (hi bi s : Nat) (hh : hi < 18446744073709551616) (hb : bi < 2 ^ 64) (hs : s < 18446744073709551616) (h : s ≤ hi) (h' : 64 ≤ hi - s) : window_Window_Mark.f k hi bi s = some (90, (hi : Int), (bi : Int)) := by
  obtain ⟨k, rfl⟩ : ∃ j, k = j + 1 := ⟨k - 1, by omega⟩
  unfold window_Window_Mark.f
  rw [check_old (k + 1) hk hi bi s hh hb hs h h']
  rfl
theorem mark_seen (k : Nat) (hk : 0 < k) (hi bi s : Nat) (hh : hi < 18446744073709551616) (hb : bi < 2 ^ 64) (hs : s < 18446744073709551616) (h0 : 0 < s) (h : s ≤ hi) (h' : hi - s < 64) (hx : bi.testBit (hi - s) = true) : window_Window_Mark.f k hi bi s = some (91, (hi : Int), (bi : Int)) := by
  obtain ⟨k, rfl⟩ : ∃ j, k = j + 1 := ⟨k - 1, by omega⟩
  unfold window_Window_Mark.f
  rw [check_in (k + 1) hk hi bi s hh hb hs h0 h h', if_pos hx]
  rfl
theorem mark_new (k : Nat) (hk : 0 < k) (hi bi s : Nat) (hh : hi < 18446744073709551616) (hb : bi < 2 ^ 64) (hs : s < 18446744073709551616) (h0 : 0 < s) (h : s ≤ hi) (h' : hi - s < 64) (hx : bi.testBit (hi - s) = false) : window_Window_Mark.f k hi bi s = some (0, (hi : Int), ((bi ||| 2 ^ (hi - s) : Nat) : Int)) := by
  obtain ⟨k, rfl⟩ : ∃ j, k = j + 1 := ⟨k - 1, by omega⟩
  have e : IntKind.u64.wrap ((hi : Int) - s) = ((hi - s : Nat) : Int) := by rw [wu64 (by omega) (by omega)]; omega
  unfold window_Window_Mark.f
  rw [check_in (k + 1) hk hi bi s hh hb hs h0 h h', if_neg (by simp [hx])]
  simp only [Option.bind_some, if_true]
  rw [if_neg (by omega), e, if_pos (by omega), one_shl _ h', or_nat bi _ hb (two_pow_lt _ h')]
theorem mark_up (k : Nat) (hk : 0 < k) (hi bi s : Nat) (hh : hi < 18446744073709551616) (hb : bi < 2 ^ 64) (hs : s < 18446744073709551616) (h : hi < s) (h' : s - hi ≤ 64) : window_Window_Mark.f k hi bi s = some (0, (s : Int), ((shlN bi (s - hi) ||| 1 : Nat) : Int)) := by
  obtain ⟨k, rfl⟩ : ∃ j, k = j + 1 := ⟨k - 1, by omega⟩
  have e : IntKind.u64.wrap ((s : Int) - hi) = ((s - hi : Nat) : Int) := by rw [wu64 (by omega) (by omega)]; omega
  have e0 : IntKind.u64.wrap ((s : Int) - s) = ((0 : Nat) : Int) := by rw [wu64 (by omega) (by omega)]; omega
  unfold window_Window_Mark.f
  rw [check_up (k + 1) hk hi bi s hh hb hs h h']
  simp only [Option.bind_some, if_true]
  rw [if_pos (by omega), e, if_pos (by omega), e0, if_pos (by omega), shl_nat, one_shl 0 (by omega), or_nat _ _ (shlN_lt _ _) (two_pow_lt 0 (by omega))]


theorem alive_ok : joustlaw09_alive.f 4 = some true := by kernel_rfl
theorem alive_at (k : Nat) (hk : 4 ≤ k) : joustlaw09_alive.f k = some true := at_rounds (g := fun k => joustlaw09_alive.f k) joustlaw09_alive.mono hk alive_ok


/-- What holds between the highest, the bits and the numbers that were taken. -/
structure Inv (hi bi : Nat) (T : List Nat) : Prop where
  hh : hi < 18446744073709551616
  hb : bi < 2 ^ 64
  all : ∀ s ∈ T, 0 < s ∧ s ≤ hi
  bit : ∀ j, j < 64 → j < hi → (bi.testBit j = true ↔ hi - j ∈ T)

theorem Inv.begin : Inv 0 0 [] := ⟨by decide, by decide, fun s h => by simp at h, fun j _ h => absurd h (Nat.not_lt_zero _)⟩

theorem Inv.up {hi bi : Nat} {T : List Nat} (I : Inv hi bi T) (s : Nat) (hs : s < 18446744073709551616) (h : hi < s) (h' : s - hi ≤ 64) : Inv s (shlN bi (s - hi) ||| 1) (s :: T) := by
  refine ⟨hs, Nat.or_lt_two_pow (shlN_lt _ _) (by decide), fun x hx => ?_, fun j hj hjs => ?_⟩
  · rcases List.mem_cons.1 hx with rfl | hx
    · omega
    · have := I.all x hx; omega
  · rw [Nat.testBit_or, shlN_bit _ _ _ h', List.mem_cons]
    have t1 : (1 : Nat).testBit j = decide (j = 0) := by
      have := Nat.testBit_two_pow (n := 0) (m := j)
      rw [Nat.pow_zero] at this
      rw [this]
      by_cases z : j = 0 <;> simp [z]; omega
    rw [t1]
    by_cases z : j = 0
    · subst z; simp
    · by_cases c : s - hi ≤ j
      · have ib : j - (s - hi) < 64 := by omega
        have ih : j - (s - hi) < hi := by omega
        have e1 : hi - (j - (s - hi)) = s - j := by omega
        have hbit := I.bit (j - (s - hi)) ib ih
        rw [e1] at hbit
        simp only [hj, c, z, decide_true, decide_false, Bool.true_and, Bool.or_false]
        rw [hbit]
        constructor
        · exact .inr
        · rintro (a | a)
          · omega
          · exact a
      · simp only [c, z, decide_false, Bool.false_and, Bool.and_false, Bool.or_false]
        constructor
        · intro hf; cases hf
        · rintro (a | a)
          · omega
          · have := I.all _ a; omega

theorem Inv.down {hi bi : Nat} {T : List Nat} (I : Inv hi bi T) (s : Nat) (h0 : 0 < s) (h : s ≤ hi) (h' : hi - s < 64) : Inv hi (bi ||| 2 ^ (hi - s)) (s :: T) := by
  refine ⟨I.hh, Nat.or_lt_two_pow I.hb (two_pow_lt _ h'), fun x hx => ?_, fun j hj hjs => ?_⟩
  · rcases List.mem_cons.1 hx with rfl | hx
    · omega
    · exact I.all x hx
  · rw [Nat.testBit_or, Nat.testBit_two_pow, List.mem_cons]
    by_cases c : hi - s = j
    · subst c
      simp only [decide_true, Bool.or_true, true_iff]
      left
      omega
    · simp only [c, decide_false, Bool.or_false]
      rw [I.bit j hj hjs]
      constructor
      · exact .inr
      · rintro (a | a)
        · omega
        · exact a

theorem Inv.seen {hi bi : Nat} {T : List Nat} (I : Inv hi bi T) {s : Nat} (h0 : 0 < s) (h : s ≤ hi) (h' : hi - s < 64) : bi.testBit (hi - s) = true ↔ s ∈ T := by
  have := I.bit (hi - s) h' (by omega)
  rwa [show hi - (hi - s) = s from by omega] at this

theorem Inv.last {hi bi : Nat} {T : List Nat} (I : Inv hi bi T) {s : Nat} (hs : s ∈ T) (k : Nat) (hk : 0 < k) : window_Window_Check.f k hi bi s = some 91 ∨ window_Window_Check.f k hi bi s = some 90 := by
  obtain ⟨h0, h1⟩ := I.all s hs
  have hh := I.hh
  by_cases c : hi - s < 64
  · have := check_in k hk hi bi s I.hh I.hb (by omega) h0 h1 c
    rw [if_pos ((I.seen h0 h1 c).2 hs)] at this
    exact .inl this
  · exact .inr (check_old k hk hi bi s I.hh I.hb (by omega) h1 (by omega))

end Go.Proofs.Ytidjnpfpbbffjaa.Pure
