/- Proved: the plain law of WindowOrder: numbers marked in an order and in the order turned round leave one window. -/
import Derived.Test.YtidjnpfpbbffjaaPWindowOrderx4
import Derived.KernelRfl
import Derived.OpenShut
import Derived.Laws.BitsLemmas
namespace Go.Proofs.Ytidjnpfpbbffjaa.Pure
open Go.RowKit Go.Proofs.Ytidjnpfpbbffjaa.PWindowOrder Go.Proofs.YtidjnpfpbbffjaaW.PrintWords Go.Proofs.YtidjnpfpbbffjaaW.PrintLast

theorem w64 {x : Int} (h : -9223372036854775808 ≤ x) (h' : x ≤ 9223372036854775807) : wrap64 x = x := by
  unfold wrap64
  omega

theorem wu64 {x : Int} (h : 0 ≤ x) (h' : x ≤ 18446744073709551615) : IntKind.u64.wrap x = x := by
  show x % 18446744073709551616 = x
  omega

theorem wu64_add {x : Int} (h : -18446744073709551616 ≤ x) (h' : x < 0) : IntKind.u64.wrap x = x + 18446744073709551616 := by
  show x % 18446744073709551616 = _
  omega

/-- A shift to the left, in 64 bits. -/
def shlN (x n : Nat) : Nat := (x * 2 ^ min n 64) % 2 ^ 64

theorem shl_nat (x n : Nat) : shl .u64 (x : Int) (n : Int) = (shlN x n : Nat) := by
  unfold shl shlN
  show (((x : Int) * 2 ^ min (n : Int).toNat 64) % 18446744073709551616 : Int) = _
  simp only [Int.toNat_natCast]
  have e : ((x : Int) * 2 ^ min n 64) = ((x * 2 ^ min n 64 : Nat) : Int) := by simp [Int.natCast_mul, Int.natCast_pow]
  rw [e]
  have e2 : (2 : Nat) ^ 64 = 18446744073709551616 := rfl
  rw [e2]
  omega

theorem shlN_lt (x n : Nat) : shlN x n < 2 ^ 64 := Nat.mod_lt _ (by decide)

theorem shlN_bit (x n j : Nat) (hn : n ≤ 64) : (shlN x n).testBit j = (decide (j < 64) && (decide (n ≤ j) && x.testBit (j - n))) := by
  unfold shlN
  rw [Nat.testBit_mod_two_pow, ← Nat.shiftLeft_eq, Nat.testBit_shiftLeft, Nat.min_eq_left hn]

theorem or_nat (a b : Nat) (ha : a < 2 ^ 64) (hb : b < 2 ^ 64) : Go.bits .or .u64 (a : Int) (b : Int) = ((a ||| b : Nat) : Int) :=
  (bits_nat .u64 64 (Nat.le_refl _) (fun n h0 h1 => wu64 h0 (by have : ((2 : Int) ^ 64) = 18446744073709551616 := rfl; omega)) a b ha hb).2

theorem and_nat (a b : Nat) (ha : a < 2 ^ 64) (hb : b < 2 ^ 64) : Go.bits .and .u64 (a : Int) (b : Int) = ((a &&& b : Nat) : Int) :=
  (bits_nat .u64 64 (Nat.le_refl _) (fun n h0 h1 => wu64 h0 (by have : ((2 : Int) ^ 64) = 18446744073709551616 := rfl; omega)) a b ha hb).1

theorem bit_int (x n : Nat) (hx : x < 2 ^ 64) (hn : n < 64) : Go.bits .and .u64 (shr .u64 (x : Int) (n : Int)) 1 = if x.testBit n = true then 1 else 0 := by
  have e : shr .u64 (x : Int) (n : Int) = ((x / 2 ^ n : Nat) : Int) := by
    unfold shr
    show (x : Int) / 2 ^ min (n : Int).toNat 64 = _
    rw [Int.toNat_natCast, Nat.min_eq_left (by omega)]
    simp
  have hd : x / 2 ^ n < 2 ^ 64 := Nat.lt_of_le_of_lt (Nat.div_le_self _ _) hx
  have h1 := and_nat (x / 2 ^ n) 1 hd (by decide)
  rw [e]
  have e1 : ((1 : Nat) : Int) = 1 := rfl
  rw [e1] at h1
  rw [h1, Nat.and_one_is_mod]
  have hb : x.testBit n = decide (x / 2 ^ n % 2 = 1) := by rw [Nat.testBit_eq_decide_div_mod_eq]
  rw [hb]
  by_cases c : x / 2 ^ n % 2 = 1
  · simp [c]
  · have : x / 2 ^ n % 2 = 0 := by omega
    simp [this]

theorem two_pow_lt (n : Nat) (hn : n < 64) : 2 ^ n < 2 ^ 64 := Nat.pow_lt_pow_right (by decide) hn

theorem one_shl (n : Nat) (hn : n < 64) : shl .u64 1 (n : Int) = ((2 ^ n : Nat) : Int) := by
  have h := shl_nat 1 n
  have e : shlN 1 n = 2 ^ n := by
    unfold shlN
    rw [Nat.one_mul, Nat.min_eq_left (by omega), Nat.mod_eq_of_lt (two_pow_lt n hn)]
  rw [e] at h
  exact h

theorem num_ok (e : Int) : joustlaw09_num.f e = some e := rfl
theorem high_ok (h b : Int) : window_Window_High.f h b = some h := rfl
theorem bits_ok (h b : Int) : window_Window_Bits.f h b = some b := rfl

set_option linter.unusedVariables false
theorem check_far (k : Nat) (hk : 0 < k) (hi bi s : Nat) (hh : hi < 18446744073709551616) (hb : bi < 2 ^ 64) (hs : s < 18446744073709551616) (h : hi < s) (h' : 64 < s - hi) : window_Window_Check.f k hi bi s = some 92 := by
  obtain ⟨k, rfl⟩ : ∃ j, k = j + 1 := ⟨k - 1, by omega⟩
  have e : IntKind.u64.wrap ((s : Int) - hi) = (s : Int) - hi := wu64 (by omega) (by omega)
  unfold window_Window_Check.f
  rw [if_pos (by omega), e]
  have d : decide ((s : Int) - hi > 64) = true := by simp; omega
  rw [d]
  simp only [window_Window_Check.j0]
  rw [if_pos trivial]
theorem check_up (k : Nat) (hk : 0 < k) (hi bi s : Nat) (hh : hi < 18446744073709551616) (hb : bi < 2 ^ 64) (hs : s < 18446744073709551616) (h : hi < s) (h' : s - hi ≤ 64) : window_Window_Check.f k hi bi s = some 0 := by
  obtain ⟨k, rfl⟩ : ∃ j, k = j + 1 := ⟨k - 1, by omega⟩
  have e : IntKind.u64.wrap ((s : Int) - hi) = (s : Int) - hi := wu64 (by omega) (by omega)
  unfold window_Window_Check.f
  rw [if_pos (by omega), e]
  have d : decide ((s : Int) - hi > 64) = false := by simp; omega
  rw [d]
  simp only [window_Window_Check.j0]
  rw [if_neg (by simp), if_pos (by omega)]
theorem check_zero (k : Nat) (hk : 0 < k) (hi bi s : Nat) (hh : hi < 18446744073709551616) (hb : bi < 2 ^ 64) (hs : s < 18446744073709551616) (h : s = 0) : window_Window_Check.f k hi bi s = some 90 := by
  obtain ⟨k, rfl⟩ : ∃ j, k = j + 1 := ⟨k - 1, by omega⟩
  unfold window_Window_Check.f
  rw [if_neg (by omega)]
  simp only [window_Window_Check.j0]
  rw [if_neg (by simp), if_neg (by omega), if_pos (by omega)]
theorem check_old (k : Nat) (hk : 0 < k) (hi bi s : Nat) (hh : hi < 18446744073709551616) (hb : bi < 2 ^ 64) (hs : s < 18446744073709551616) (h : s ≤ hi) (h' : 64 ≤ hi - s) : window_Window_Check.f k hi bi s = some 90 := by
  obtain ⟨k, rfl⟩ : ∃ j, k = j + 1 := ⟨k - 1, by omega⟩
  have e : IntKind.u64.wrap ((hi : Int) - s) = (hi : Int) - s := wu64 (by omega) (by omega)
  unfold window_Window_Check.f
  rw [if_neg (by omega)]
  simp only [window_Window_Check.j0]
  rw [if_neg (by simp), if_neg (by omega), e]
  by_cases c : (s : Int) = 0
  · rw [if_pos c]
  · rw [if_neg c, if_pos (by omega)]
theorem check_in (k : Nat) (hk : 0 < k) (hi bi s : Nat) (hh : hi < 18446744073709551616) (hb : bi < 2 ^ 64) (hs : s < 18446744073709551616) (h0 : 0 < s) (h : s ≤ hi) (h' : hi - s < 64) : window_Window_Check.f k hi bi s = some (if bi.testBit (hi - s) = true then 91 else 0) := by
  obtain ⟨k, rfl⟩ : ∃ j, k = j + 1 := ⟨k - 1, by omega⟩
  have e : IntKind.u64.wrap ((hi : Int) - s) = ((hi - s : Nat) : Int) := by rw [wu64 (by omega) (by omega)]; omega
  unfold window_Window_Check.f
  rw [if_neg (by omega)]
  simp only [window_Window_Check.j0]
  rw [if_neg (by simp), if_neg (by omega), e, if_neg (by omega), if_neg (by omega), if_pos (by omega), bit_int bi (hi - s) hb h']
  by_cases c : bi.testBit (hi - s) = true
  · simp [c]
  · simp [c]
theorem mark_far (k : Nat) (hk : 0 < k) (hi bi s : Nat) (hh : hi < 18446744073709551616) (hb : bi < 2 ^ 64) (hs : s < 18446744073709551616) (h : hi < s) (h' : 64 < s - hi) : window_Window_Mark.f k hi bi s = some (92, (hi : Int), (bi : Int)) := by
  obtain ⟨k, rfl⟩ : ∃ j, k = j + 1 := ⟨k - 1, by omega⟩
  unfold window_Window_Mark.f
  rw [check_far (k + 1) hk hi bi s hh hb hs h h']
  rfl
theorem mark_zero (k : Nat) (hk : 0 < k) (hi bi s : Nat) (hh : hi < 18446744073709551616) (hb : bi < 2 ^ 64) (hs : s < 18446744073709551616) (h : s = 0) : window_Window_Mark.f k hi bi s = some (90, (hi : Int), (bi : Int)) := by
  obtain ⟨k, rfl⟩ : ∃ j, k = j + 1 := ⟨k - 1, by omega⟩
  unfold window_Window_Mark.f
  rw [check_zero (k + 1) hk hi bi s hh hb hs h]
  rfl
theorem mark_old (k : Nat) (hk : 0 < k) (hi bi s : Nat) (hh : hi < 18446744073709551616) (hb : bi < 2 ^ 64) (hs : s < 18446744073709551616) (h : s ≤ hi) (h' : 64 ≤ hi - s) : window_Window_Mark.f k hi bi s = some (90, (hi : Int), (bi : Int)) := by
  obtain ⟨k, rfl⟩ : ∃ j, k = j + 1 := ⟨k - 1, by omega⟩
  unfold window_Window_Mark.f
  rw [check_old (k + 1) hk hi bi s hh hb hs h h']
  rfl
theorem mark_seen (k : Nat) (hk : 0 < k) (hi bi s : Nat) (hh : hi < 18446744073709551616) (hb : bi < 2 ^ 64) (hs : s < 18446744073709551616) (h0 : 0 < s) (h : s ≤ hi) (h' : hi - s < 64) (hx : bi.testBit (hi - s) = true) : window_Window_Mark.f k hi bi s = some (91, (hi : Int), (bi : Int)) := by
  obtain ⟨k, rfl⟩ : ∃ j, k = j + 1 := ⟨k - 1, by omega⟩
  unfold window_Window_Mark.f
  rw [check_in (k + 1) hk hi bi s hh hb hs h0 h h', if_pos hx]
  rfl
theorem mark_new (k : Nat) (hk : 0 < k) (hi bi s : Nat) (hh : hi < 18446744073709551616) (hb : bi < 2 ^ 64) (hs : s < 18446744073709551616) (h0 : 0 < s) (h : s ≤ hi) (h' : hi - s < 64) (hx : bi.testBit (hi - s) = false) : window_Window_Mark.f k hi bi s = some (0, (hi : Int), ((bi ||| 2 ^ (hi - s) : Nat) : Int)) := by
  obtain ⟨k, rfl⟩ : ∃ j, k = j + 1 := ⟨k - 1, by omega⟩
  have e : IntKind.u64.wrap ((hi : Int) - s) = ((hi - s : Nat) : Int) := by rw [wu64 (by omega) (by omega)]; omega
  unfold window_Window_Mark.f
  rw [check_in (k + 1) hk hi bi s hh hb hs h0 h h', if_neg (by simp [hx])]
  simp only [Option.bind_some, if_true]
  rw [if_neg (by omega), e, if_pos (by omega), one_shl _ h', or_nat bi _ hb (two_pow_lt _ h')]
theorem mark_up (k : Nat) (hk : 0 < k) (hi bi s : Nat) (hh : hi < 18446744073709551616) (hb : bi < 2 ^ 64) (hs : s < 18446744073709551616) (h : hi < s) (h' : s - hi ≤ 64) : window_Window_Mark.f k hi bi s = some (0, (s : Int), ((shlN bi (s - hi) ||| 1 : Nat) : Int)) := by
  obtain ⟨k, rfl⟩ : ∃ j, k = j + 1 := ⟨k - 1, by omega⟩
  have e : IntKind.u64.wrap ((s : Int) - hi) = ((s - hi : Nat) : Int) := by rw [wu64 (by omega) (by omega)]; omega
  have e0 : IntKind.u64.wrap ((s : Int) - s) = ((0 : Nat) : Int) := by rw [wu64 (by omega) (by omega)]; omega
  unfold window_Window_Mark.f
  rw [check_up (k + 1) hk hi bi s hh hb hs h h']
  simp only [Option.bind_some, if_true]
  rw [if_pos (by omega), e, if_pos (by omega), e0, if_pos (by omega), shl_nat, one_shl 0 (by omega), or_nat _ _ (shlN_lt _ _) (two_pow_lt 0 (by omega))]


theorem alive_ok : joustlaw09_alive.f 4 = some true := by kernel_rfl
theorem alive_at (k : Nat) (hk : 4 ≤ k) : joustlaw09_alive.f k = some true := at_rounds (g := fun k => joustlaw09_alive.f k) joustlaw09_alive.mono hk alive_ok

/-- A step of a walk: 1 to 64 up. -/
theorem step_val (x : Int) (h0 : 0 ≤ x) (h1 : x ≤ 255) : Int.tmod (IntKind.u64.wrap x) 64 = ((x.toNat % 64 : Nat) : Int) := by
  rw [wu64 h0 (by omega), Int.tmod_eq_emod_of_nonneg h0]
  omega

theorem walk_ok (l : List Int) (hl : ∀ x ∈ l, 0 ≤ x ∧ x ≤ 255) (hlen : l.length ≤ 200) (d : Nat) : ∀ (k i hi bi : Nat), i + d = l.length → d + 2 < k → hi ≤ 64 * i → bi < 2 ^ 64 →
    ∃ hi' bi' : Nat, joustlaw09_walk.l0 k l (i : Int) hi bi = some (true, (hi' : Int), (bi' : Int)) ∧ hi' ≤ 12800 ∧ bi' < 2 ^ 64 ∧ (0 < l.length → d = 0 ∨ 0 < hi') := by
  induction d with
  | zero =>
    intro k i hi bi hi' hk hh hb
    obtain ⟨k, rfl⟩ : ∃ j, k = j + 1 := ⟨k - 1, by omega⟩
    refine ⟨hi, bi, ?_, by omega, hb, fun _ => .inl rfl⟩
    simp only [joustlaw09_walk.l0]
    rw [if_neg (by omega)]
  | succ d ih =>
    intro k i hi bi hi' hk hh hb
    obtain ⟨k, rfl⟩ : ∃ j, k = j + 1 := ⟨k - 1, by omega⟩
    have hlt : i < l.length := by omega
    have hx := hl l[i] (List.getElem_mem hlt)
    have er : rd l (i : Int) = l[i] := by unfold rd; simp [hlt]
    have es : IntKind.u64.wrap (IntKind.u64.wrap ((hi : Int) + 1) + Int.tmod (IntKind.u64.wrap (rd l (i : Int))) 64) = ((hi + 1 + l[i].toNat % 64 : Nat) : Int) := by
      rw [er, step_val _ hx.1 hx.2, wu64 (x := (hi : Int) + 1) (by omega) (by omega), wu64 (by omega) (by omega)]
      omega
    have hm := mark_up k (by omega) hi bi (hi + 1 + l[i].toNat % 64) (by omega) hb (by omega) (by omega) (by omega)
    obtain ⟨h2, b2, e2, q1, q2, q3⟩ := ih k (i + 1) (hi + 1 + l[i].toNat % 64) _ (by omega) (by omega) (by omega) (Nat.or_lt_two_pow (shlN_lt bi (hi + 1 + l[i].toNat % 64 - hi)) (by decide : 1 < 2 ^ 64))
    refine ⟨h2, b2, ?_, q1, q2, fun h => .inr ?_⟩
    · simp only [joustlaw09_walk.l0]
      rw [if_pos (by omega), high_ok]
      simp only [Option.bind_some]
      rw [if_pos (by omega), es, hm]
      simp only [Option.bind_some, num_ok, if_true]
      have ei : ((i + 1 : Nat) : Int) = (i : Int) + 1 := by omega
      rw [ei] at e2
      rw [w64 (by omega) (by omega)]
      exact e2
    · rcases q3 h with rfl | h3
      · obtain ⟨k, rfl⟩ : ∃ j, k = j + 1 := ⟨k - 1, by omega⟩
        simp only [joustlaw09_walk.l0] at e2
        rw [if_neg (by omega)] at e2
        simp only [Option.some.injEq, Prod.mk.injEq] at e2
        omega
      · exact h3

theorem wrap_succ (i : Nat) (h : i < 9223372036854775807) : wrap64 ((i : Int) + 1) = ((i + 1 : Nat) : Int) := by
  rw [w64 (by omega) (by omega)]
  omega

theorem wrap_pred (i : Nat) (h : i < 9223372036854775807) : wrap64 (((i + 1 : Nat) : Int) - 1) = (i : Int) := by
  rw [w64 (by omega) (by omega)]
  omega

/-- A window that began as (base, B), and in which just the numbers of M, all above base by at most 63, were marked. -/
structure St (base B : Nat) (M : Nat → Prop) (hi bi : Nat) : Prop where
  lo : base ≤ hi
  up : hi ≤ base + 63
  top : hi = base ∨ M hi
  all : ∀ s, M s → base < s ∧ s ≤ hi
  lt : bi < 2 ^ 64
  bit : ∀ j, j < 64 → (bi.testBit j = true ↔ (j < hi - base ∧ M (hi - j)) ∨ (hi - base ≤ j ∧ B.testBit (j - (hi - base)) = true))

theorem St.congr {base B : Nat} {M M' : Nat → Prop} {hi bi : Nat} (h : St base B M hi bi) (e : ∀ s, M s ↔ M' s) : St base B M' hi bi where
  lo := h.lo
  up := h.up
  top := h.top.imp id (e hi).1
  all := fun s hs => h.all s ((e s).2 hs)
  lt := h.lt
  bit := fun j hj => by rw [h.bit j hj, e (hi - j)]

theorem St.same {base B : Nat} {M : Nat → Prop} {hi bi hi' bi' : Nat} (h : St base B M hi bi) (h' : St base B M hi' bi') : hi = hi' ∧ bi = bi' := by
  have e : hi = hi' := by
    rcases h.top with a | a
    · rcases h'.top with b | b
      · omega
      · have := (h.all _ b); have := h'.lo; omega
    · rcases h'.top with b | b
      · have := (h'.all _ a); have := h.lo; omega
      · have := (h.all _ b).2; have := (h'.all _ a).2; omega
  subst e
  refine ⟨rfl, Nat.eq_of_testBit_eq fun j => ?_⟩
  by_cases c : j < 64
  · have h1 := h.bit j c
    have h2 := h'.bit j c
    rw [← h2] at h1
    exact Bool.eq_iff_iff.2 h1
  · have p : 2 ^ 64 ≤ 2 ^ j := Nat.pow_le_pow_right (by decide) (by omega)
    rw [Nat.testBit_lt_two_pow (Nat.lt_of_lt_of_le h.lt p), Nat.testBit_lt_two_pow (Nat.lt_of_lt_of_le h'.lt p)]

theorem St.begin (base B : Nat) (h : B < 2 ^ 64) : St base B (fun _ => False) base B where
  lo := Nat.le_refl _
  up := by omega
  top := .inl rfl
  all := fun s hs => hs.elim
  lt := h
  bit := fun j hj => by simp

theorem St.mark {base B : Nat} {M : Nat → Prop} {hi bi : Nat} (h : St base B M hi bi) (hb : base ≤ 12800) (k : Nat) (hk : 0 < k) (s : Nat) (h0 : base < s) (h1 : s ≤ base + 63) :
    ∃ (e : Int) (hi' bi' : Nat), window_Window_Mark.f k hi bi s = some (e, (hi' : Int), (bi' : Int)) ∧ St base B (fun x => M x ∨ x = s) hi' bi' := by
  have lo := h.lo
  have up := h.up
  by_cases c : hi < s
  · refine ⟨0, s, _, mark_up k hk hi bi s (by omega) h.lt (by omega) c (by omega), ⟨by omega, h1, .inr (.inr rfl), ?_, Nat.or_lt_two_pow (shlN_lt _ _) (by decide), ?_⟩⟩
    · intro x hx
      rcases hx with hx | rfl
      · have := h.all x hx; omega
      · omega
    · intro j hj
      have ib : j - (s - hi) < 64 := by omega
      rw [Nat.testBit_or, shlN_bit _ _ _ (by omega)]
      have t1 : (1 : Nat).testBit j = decide (j = 0) := by
        have := Nat.testBit_two_pow (n := 0) (m := j)
        rw [Nat.pow_zero] at this
        rw [this]
        by_cases z : j = 0 <;> simp [z]; omega
      rw [t1]
      by_cases z : j = 0
      · subst z
        simp
        omega
      · by_cases c2 : s - hi ≤ j
        · have e1 : hi - (j - (s - hi)) = s - j := by omega
          have e2 : j - (s - hi) - (hi - base) = j - (s - base) := by omega
          have hbit := h.bit (j - (s - hi)) ib
          rw [e1, e2] at hbit
          simp only [hj, c2, z, decide_true, decide_false, Bool.true_and, Bool.or_false]
          rw [hbit]
          constructor
          · rintro (⟨a, b⟩ | ⟨a, b⟩)
            · exact .inl ⟨by omega, .inl b⟩
            · exact .inr ⟨by omega, b⟩
          · rintro (⟨a, b | b⟩ | ⟨a, b⟩)
            · exact .inl ⟨by omega, b⟩
            · omega
            · exact .inr ⟨by omega, b⟩
        · simp only [c2, z, decide_false, Bool.false_and, Bool.and_false, Bool.or_false]
          constructor
          · intro hf; cases hf
          · rintro (⟨a, b | b⟩ | ⟨a, b⟩)
            · have := h.all _ b; omega
            · omega
            · omega
  · have hs : hi - s < 64 := by omega
    have hm : hi - (hi - s) = s := by omega
    by_cases t : bi.testBit (hi - s) = true
    · have ms : M s := by
        rcases (h.bit _ hs).1 t with ⟨a, b⟩ | ⟨a, b⟩
        · rw [hm] at b; exact b
        · omega
      refine ⟨91, hi, bi, mark_seen k hk hi bi s (by omega) h.lt (by omega) (by omega) (by omega) hs t, h.congr fun x => ⟨.inl, ?_⟩⟩
      rintro (a | rfl)
      · exact a
      · exact ms
    · have t' : bi.testBit (hi - s) = false := by simpa using t
      refine ⟨0, hi, _, mark_new k hk hi bi s (by omega) h.lt (by omega) (by omega) (by omega) hs t', ⟨lo, up, h.top.imp id .inl, ?_, Nat.or_lt_two_pow h.lt (two_pow_lt _ hs), ?_⟩⟩
      · intro x hx
        rcases hx with hx | rfl
        · exact h.all x hx
        · omega
      · intro j hj
        rw [Nat.testBit_or, Nat.testBit_two_pow]
        by_cases c2 : hi - s = j
        · subst c2
          simp only [decide_true, Bool.or_true]
          exact ⟨fun _ => .inl ⟨by omega, .inr hm⟩, fun _ => trivial⟩
        · simp only [c2, decide_false, Bool.or_false]
          rw [h.bit j hj]
          constructor
          · rintro (⟨a, b⟩ | ⟨a, b⟩)
            · exact .inl ⟨a, .inl b⟩
            · exact .inr ⟨a, b⟩
          · rintro (⟨a, b | b⟩ | ⟨a, b⟩)
            · exact .inl ⟨a, b⟩
            · omega
            · exact .inr ⟨a, b⟩

theorem check_total (k : Nat) (hk : 0 < k) (hi bi s : Nat) (hh : hi < 18446744073709551616) (hb : bi < 2 ^ 64) (hs : s < 18446744073709551616) : ∃ e : Int, window_Window_Check.f k hi bi s = some e := by
  by_cases c : hi < s
  · by_cases c2 : 64 < s - hi
    · exact ⟨_, check_far k hk hi bi s hh hb hs c c2⟩
    · exact ⟨_, check_up k hk hi bi s hh hb hs c (by omega)⟩
  · by_cases c0 : s = 0
    · exact ⟨_, check_zero k hk hi bi s hh hb hs c0⟩
    · by_cases c2 : 64 ≤ hi - s
      · exact ⟨_, check_old k hk hi bi s hh hb hs (by omega) c2⟩
      · exact ⟨_, check_in k hk hi bi s hh hb hs (by omega) (by omega) (by omega)⟩

theorem mark_total (k : Nat) (hk : 0 < k) (hi bi s : Nat) (hh : hi < 18446744073709551616) (hb : bi < 2 ^ 64) (hs : s < 18446744073709551616) :
    ∃ (e : Int) (hi' bi' : Nat), window_Window_Mark.f k hi bi s = some (e, (hi' : Int), (bi' : Int)) ∧ hi' < 18446744073709551616 ∧ bi' < 2 ^ 64 := by
  by_cases c : hi < s
  · by_cases c2 : 64 < s - hi
    · exact ⟨_, _, _, mark_far k hk hi bi s hh hb hs c c2, hh, hb⟩
    · exact ⟨_, _, _, mark_up k hk hi bi s hh hb hs c (by omega), hs, Nat.or_lt_two_pow (shlN_lt _ _) (by decide)⟩
  · by_cases c0 : s = 0
    · exact ⟨_, _, _, mark_zero k hk hi bi s hh hb hs c0, hh, hb⟩
    · by_cases c2 : 64 ≤ hi - s
      · exact ⟨_, _, _, mark_old k hk hi bi s hh hb hs (by omega) c2, hh, hb⟩
      · by_cases t : bi.testBit (hi - s) = true
        · exact ⟨_, _, _, mark_seen k hk hi bi s hh hb hs (by omega) (by omega) (by omega) t, hh, hb⟩
        · exact ⟨_, _, _, mark_new k hk hi bi s hh hb hs (by omega) (by omega) (by omega) (by simpa using t), hh, Nat.or_lt_two_pow hb (two_pow_lt _ (by omega))⟩

theorem further_ok (l : List Int) (hl : ∀ x ∈ l, 0 ≤ x ∧ x ≤ 18446744073709551615) (hlen : l.length ≤ 140737488351232) (d : Nat) : ∀ (k i hi bi : Nat), i + d = l.length → d + 2 < k → hi < 18446744073709551616 → bi < 2 ^ 64 →
    joustlaw09_WindowOrder.l2 k l (i : Int) hi bi hi bi = some true := by
  induction d with
  | zero =>
    intro k i hi bi hid hk hh hb
    obtain ⟨k, rfl⟩ : ∃ j, k = j + 1 := ⟨k - 1, by omega⟩
    simp only [joustlaw09_WindowOrder.l2]
    rw [if_neg (by omega), bits_ok]
    simp
  | succ d ih =>
    intro k i hi bi hid hk hh hb
    obtain ⟨k, rfl⟩ : ∃ j, k = j + 1 := ⟨k - 1, by omega⟩
    have hlt : i < l.length := by omega
    have hx := hl l[i] (List.getElem_mem hlt)
    have er : rd l (i : Int) = l[i] := by unfold rd; simp [hlt]
    obtain ⟨s, es⟩ := Int.eq_ofNat_of_zero_le hx.1
    have hs : s < 18446744073709551616 := by omega
    obtain ⟨e, he⟩ := check_total k (by omega) hi bi s hh hb hs
    obtain ⟨e2, hi', bi', hm, hh', hb'⟩ := mark_total k (by omega) hi bi s hh hb hs
    have hn := ih k (i + 1) hi' bi' (by omega) (by omega) hh' hb'
    have hi9 : i < 9223372036854775807 := by omega
    simp only [joustlaw09_WindowOrder.l2]
    rw [if_pos (Int.ofNat_lt.mpr hlt), if_pos (Int.natCast_nonneg i), er, es]
    have he' : window_Window_Check.f k (hi : Int) (bi : Int) (Int.ofNat s) = some e := he
    have hm' : window_Window_Mark.f k (hi : Int) (bi : Int) (Int.ofNat s) = some (e2, (hi' : Int), (bi' : Int)) := hm
    first | rw [he, hm] | rw [he', hm']
    simp only [Option.bind_some, num_ok, if_true]
    rw [wrap_succ i hi9]
    exact hn

/-- The number that a pick stands for. -/
def num (base : Nat) (x : Int) : Nat := base + 1 + x.toNat % 63

theorem num_val (base : Nat) (hb : base ≤ 12800) (x : Int) (h0 : 0 ≤ x) (h1 : x ≤ 255) : IntKind.u64.wrap (IntKind.u64.wrap ((base : Int) + 1) + Int.tmod (IntKind.u64.wrap x) 63) = (num base x : Int) := by
  rw [wu64 (x := x) h0 (by omega), Int.tmod_eq_emod_of_nonneg h0, wu64 (x := (base : Int) + 1) (by omega) (by omega), wu64 (by omega) (by omega)]
  unfold num
  omega

theorem num_in (base : Nat) (x : Int) : base < num base x ∧ num base x ≤ base + 63 := by
  unfold num
  omega

theorem back_ok (l m : List Int) (hl : ∀ x ∈ l, 0 ≤ x ∧ x ≤ 255) (hm : ∀ x ∈ m, 0 ≤ x ∧ x ≤ 18446744073709551615) (hmlen : m.length ≤ 140737488351232) (base B n hi bi : Nat) (hb : base ≤ 12800) (hn : n ≤ l.length) (hn64 : n ≤ 64)
    (hw : St base B (fun s => s ∈ (l.take n).map (num base)) hi bi) (d : Nat) : ∀ (k i hv bv : Nat), d = i → i ≤ n → d + m.length + 10 < k → St base B (fun s => s ∈ ((l.take n).drop i).map (num base)) hv bv →
    joustlaw09_WindowOrder.l1 k l m base ((i : Int) - 1) hi bi hv bv = some true := by
  induction d with
  | zero =>
    intro k i hv bv hi0 hin hk hS
    subst hi0
    obtain ⟨k, rfl⟩ : ∃ j, k = j + 1 := ⟨k - 1, by omega⟩
    rw [List.drop_zero] at hS
    obtain ⟨rfl, rfl⟩ := hw.same hS
    have hf := fun k hk => further_ok m hm hmlen m.length k 0 hi bi (by omega) hk (by have := hw.up; omega) hw.lt
    have j5 : joustlaw09_WindowOrder.j5 k m false hi bi hi bi = some true := by
      obtain ⟨k, rfl⟩ : ∃ j, k = j + 1 := ⟨k - 1, by omega⟩
      simp only [joustlaw09_WindowOrder.j5]
      rw [if_neg (by simp)]
      exact hf k (by omega)
    simp only [joustlaw09_WindowOrder.l1]
    rw [if_neg (by omega), high_ok]
    simp only [Option.bind_some, if_true, bits_ok]
    have eb : ((bi : Int) != (bi : Int)) = false := by simp
    rw [eb]
    exact j5
  | succ d ih =>
    intro k i hv bv hi0 hin hk hS
    obtain ⟨k, rfl⟩ : ∃ j, k = j + 1 := ⟨k - 1, by omega⟩
    subst hi0
    have hlt : d < l.length := by omega
    have hx := hl l[d] (List.getElem_mem hlt)
    have er : rd l (d : Int) = l[d] := by unfold rd; simp [hlt]
    have ni := num_in base l[d]
    have e1 : ((d + 1 : Nat) : Int) - 1 = (d : Int) := by omega
    obtain ⟨e, hv', bv', hmk, hS'⟩ := hS.mark hb k (by omega) (num base l[d]) ni.1 ni.2
    have hdt : d < (l.take n).length := by rw [List.length_take]; omega
    have hS2 : St base B (fun s => s ∈ ((l.take n).drop d).map (num base)) hv' bv' := by
      refine hS'.congr fun s => ?_
      rw [List.drop_eq_getElem_cons hdt, List.map_cons, List.mem_cons, List.getElem_take]
      exact Or.comm
    have hn' := ih k d hv' bv' rfl (by omega) (by omega) hS2
    have hbd : -9223372036854775808 ≤ (d : Int) - 1 ∧ (d : Int) - 1 ≤ 9223372036854775807 := by omega
    have hnv := num_val base hb l[d] hx.1 hx.2
    simp only [joustlaw09_WindowOrder.l1]
    rw [e1, if_pos (Int.natCast_nonneg d), if_pos (Int.natCast_nonneg d), if_pos (Int.ofNat_lt.mpr hlt), er, hnv, hmk]
    simp only [Option.bind_some]
    rw [w64 hbd.1 hbd.2]
    exact hn'

theorem there_ok (l m : List Int) (hl : ∀ x ∈ l, 0 ≤ x ∧ x ≤ 255) (hm : ∀ x ∈ m, 0 ≤ x ∧ x ≤ 18446744073709551615) (hmlen : m.length ≤ 140737488351232) (base B : Nat) (hb : base ≤ 12800) (hB : B < 2 ^ 64) (d : Nat) :
    ∀ (k i hi bi : Nat), i + d = min l.length 64 → d + m.length + 90 < k → St base B (fun s => s ∈ (l.take i).map (num base)) hi bi →
    joustlaw09_WindowOrder.l0 k l m base (i : Int) hi bi base B = some true := by
  induction d with
  | zero =>
    intro k i hi bi hid hk hS
    obtain ⟨k, rfl⟩ : ∃ j, k = j + 1 := ⟨k - 1, by omega⟩
    have hbd : -9223372036854775808 ≤ (i : Int) - 1 ∧ (i : Int) - 1 ≤ 9223372036854775807 := by omega
    have bk := fun k hk => back_ok l m hl hm hmlen base B i hi bi hb (by omega) (by omega) hS i k i base B rfl (Nat.le_refl _) hk
      ((St.begin base B hB).congr fun s => by rw [List.drop_eq_nil_of_le (by rw [List.length_take]; omega)]; simp)
    have j2 : joustlaw09_WindowOrder.j2 k l m base hi bi base B = some true := by
      obtain ⟨k, rfl⟩ : ∃ j, k = j + 1 := ⟨k - 1, by omega⟩
      obtain ⟨k, rfl⟩ : ∃ j, k = j + 1 := ⟨k - 1, by omega⟩
      have j3 : joustlaw09_WindowOrder.j3 (k + 1) l m base (i : Int) hi bi base B = some true := by
        simp only [joustlaw09_WindowOrder.j3]
        rw [w64 hbd.1 hbd.2]
        exact bk k (by omega)
      rw [joustlaw09_WindowOrder.j2]
      by_cases c : (l.length : Int) > 64
      · rw [if_pos c]
        have e : (64 : Int) = (i : Int) := by omega
        rw [e]
        exact j3
      · rw [if_neg c]
        have e : (l.length : Int) = (i : Int) := by omega
        rw [e]
        exact j3
    simp only [joustlaw09_WindowOrder.l0]
    by_cases c : (i : Int) < (l.length : Int)
    · rw [if_pos c, if_neg (by omega)]
      exact j2
    · rw [if_neg c]
      exact j2
  | succ d ih =>
    intro k i hi bi hid hk hS
    obtain ⟨k, rfl⟩ : ∃ j, k = j + 1 := ⟨k - 1, by omega⟩
    have hlt : i < l.length := by omega
    have hx := hl l[i] (List.getElem_mem hlt)
    have er : rd l (i : Int) = l[i] := by unfold rd; simp [hlt]
    have ni := num_in base l[i]
    obtain ⟨e, hv', bv', hmk, hS'⟩ := hS.mark hb k (by omega) (num base l[i]) ni.1 ni.2
    have hS2 : St base B (fun s => s ∈ (l.take (i + 1)).map (num base)) hv' bv' := by
      refine hS'.congr fun s => ?_
      rw [List.take_succ_eq_append_getElem hlt, List.map_append, List.mem_append, List.map_singleton, List.mem_singleton]
    have hn' := ih k (i + 1) hv' bv' (by omega) (by omega) hS2
    have hi9 : i < 9223372036854775807 := by omega
    have i64 : (i : Int) < 64 := by omega
    have hnv := num_val base hb l[i] hx.1 hx.2
    simp only [joustlaw09_WindowOrder.l0]
    rw [if_pos (Int.ofNat_lt.mpr hlt), if_pos i64, if_pos (Int.natCast_nonneg i), er, hnv, hmk]
    simp only [Option.bind_some]
    rw [wrap_succ i hi9]
    exact hn'

theorem WindowOrder : joustlaw09_WindowOrder.Pure := by
  intro l0 l1 l2 _ _ h0 _ _ h1 _ hlen h2
  have h0' : ∀ x ∈ l0, 0 ≤ x ∧ x ≤ 255 := fun x hx => bounds_u8 (h0 x hx)
  have h1' : ∀ x ∈ l1, 0 ≤ x ∧ x ≤ 255 := fun x hx => bounds_u8 (h1 x hx)
  have h2' : ∀ x ∈ l2, 0 ≤ x ∧ x ≤ 18446744073709551615 := fun x hx => bounds_u64 (h2 x hx)
  refine ⟨l2.length + 1000, ?_⟩
  unfold joustlaw09_WindowOrder.f
  rw [alive_at _ (by omega)]
  simp only [Option.bind_some, if_true]
  by_cases c : (l0.length : Int) > 200
  · rw [if_pos c, show l2.length + 1000 = (l2.length + 999) + 1 from rfl]
    simp only [joustlaw09_WindowOrder.j0]
    simp
    omega
  · rw [if_neg c]
    obtain ⟨hi, bi, e, q1, q2, _⟩ := walk_ok l0 h0' (by omega) l0.length (l2.length + 1000) 0 0 0 (by omega) (by omega) (by omega) (by decide)
    unfold joustlaw09_walk.f
    have e' : joustlaw09_walk.l0 (l2.length + 1000) l0 0 0 0 = some (true, (hi : Int), (bi : Int)) := e
    rw [e']
    simp only [Option.bind_some]
    rw [show l2.length + 1000 = (l2.length + 999) + 1 from rfl]
    have ht := there_ok l1 l2 h1' h2' (by omega) hi bi q1 q2 (min l1.length 64) (l2.length + 999) 0 hi bi (by omega) (by omega)
      ((St.begin hi bi q2).congr fun s => by simp)
    simp only [joustlaw09_WindowOrder.j0]
    rw [if_neg (by simp), high_ok]
    simp only [Option.bind_some]
    exact ht

end Go.Proofs.Ytidjnpfpbbffjaa.Pure
