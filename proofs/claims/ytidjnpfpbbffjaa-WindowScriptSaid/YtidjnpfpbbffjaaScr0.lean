/- Proved: the walks of the reference window: marked, Check. -/
import Derived.Test.YtidjnpfpbbffjaaProg
import Derived.Below
import Derived.Deep.Draws
import Derived.Deep.AppendLies
import Derived.Maps.AppendAt
import Derived.OwnWalk
import Derived.Laws.BytesArg
import Derived.Laws.MakeOwn
import Derived.Laws.OwnMore
import Derived.Deep.OwnRows
import Derived.Tactics
import Derived.Lib.ConvBytes
import Derived.Laws.Slices
import Derived.WalkKit
import Derived.KernelRfl
import Derived.RowKit3
import Derived.Deep.LoopGhost
import Derived.Deep.QuietTactic
import Derived.BigQuiet
import Derived.WideLaws
import Derived.Deep.DeepCutAuto
import Derived.Deep.CutBlock
import Derived.Deep.RegionHeld3
import Derived.Laws.Rows
import Derived.Lib.AppendStr
import Derived.ArgAppend
import Derived.Laws.IdiomCopy
import Derived.OrdersHeld
import Derived.Laws.BitsLemmas
import Derived.RowKit
import Derived.Test.YtidjnpfpbbffjaaWWords
import Derived.Test.YtidjnpfpbbffjaaWLast
import Derived.Test.YtidjnpfpbbffjaaWTab
import Derived.Test.YtidjnpfpbbffjaaWFour
import Derived.Test.YtidjnpfpbbffjaaWQPut
import Derived.Test.YtidjnpfpbbffjaaWApart
import Derived.Test.YtidjnpfpbbffjaaWArr
import Derived.Test.YtidjnpfpbbffjaaWZeros
import Derived.Test.YtidjnpfpbbffjaaWFoot
import Derived.Test.YtidjnpfpbbffjaaWKept
import Derived.Test.YtidjnpfpbbffjaaWShare
import Derived.Test.YtidjnpfpbbffjaaWN
import Derived.Test.YtidjnpfpbbffjaaWFootNe
import Derived.Test.YtidjnpfpbbffjaaWAt
import Derived.Test.YtidjnpfpbbffjaaWEqStruct
import Derived.Test.YtidjnpfpbbffjaaWRepsOne
import Derived.Test.YtidjnpfpbbffjaaWInv
import Derived.Test.YtidjnpfpbbffjaaWInvWords
import Derived.Test.YtidjnpfpbbffjaaWGuard
import Derived.Test.YtidjnpfpbbffjaaWNEv
import Derived.Test.YtidjnpfpbbffjaaWMore
import Derived.Laws.FloatArith
namespace Go.Proofs.Ytidjnpfpbbffjaa.Scr
open Go.RowKit Go.Proofs.YtidjnpfpbbffjaaW.PrintWords Go.Proofs.YtidjnpfpbbffjaaW.PrintLast Go.Proofs.YtidjnpfpbbffjaaW.PrintMore
set_option linter.unusedVariables false
set_option linter.unusedSimpArgs false

/-- A document's window at g: its list's row and its top. -/
structure RW (w : World) (g : Nat) (A : Option Addr) (c : Nat) (T : List Nat) (top : Nat) : Prop where
  blk : w.heap[g]? = some (.cells #[.slice A T.length c, .int .u64 (top : Int)] 31 (0, 0))
  row : ∀ j (h : j < T.length), ∃ b o, A = some ⟨b, o, none⟩ ∧ w.cell? ⟨b, o + j, none⟩ = some (.int .u64 (T[j] : Nat))
  len : T.length ≤ 1000

set_option maxHeartbeats 2000000 in
set_option maxRecDepth 100000 in
theorem marked_calls (g : Nat) (A : Option Addr) (c : Nat) (T : List Nat) (top s : Nat) (w : World) (h : RW w g A c T top) : Calls Try.prog 33 #[.pointer (some ⟨g, 0, none⟩), .int .u64 (s : Int)] w fun e w' => e = .returned (.bool (decide (s ∈ T))) ∧ w' = w := by
  have hu31 := Try.underlying31
  have hu29 := Try.underlying29
  have hu24 := Try.underlying24
  have hln := h.len
  have hcz0 := blk_cell h.blk 0
  have hfz0 := blk_frozen h.blk 0
  simp only [List.getElem?_toArray, List.getElem?_cons_zero, List.getElem?_cons_succ] at hcz0
  go_enter Try.func33, Try.ntmps33
  go_wp2_with fail
  go_loopw [5] (fun i wr => ∃ k : Nat, k ≤ T.length ∧ i = .int .i64 k ∧ wr = w ∧ Aside0 (s ∉ T.take k)) (fun i _ => T.length - (intOf i).toNat)
  case atStart => exact ⟨0, Nat.zero_le _, rfl, rfl, ⟨by simp⟩⟩
  case round =>
    obtain ⟨k, hk, rfl, ew, HN⟩ := hrel
    subst ew
    by_cases hlt : k < T.length
    · have hk2 : (k : Int) < (T.length : Int) := Int.ofNat_lt.mpr hlt
      have hk0 : (0 : Int) ≤ k := Int.natCast_nonneg k
      obtain ⟨b, o, eA, hx⟩ := h.row k hlt
      subst eA
      by_cases he : T[k] = s
      · rw [he] at hx
        have HE := Aside0.mk he
        clear he
        go_wp2
        go_ret
        exact ⟨by have : s ∈ T := HE.out ▸ List.getElem_mem hlt; simp [this], rfl⟩
      · have hne : ((T[k] : Nat) : Int) ≠ (s : Int) := by omega
        have HE := Aside0.mk he
        clear he
        go_wp2
        go_roundw
        case rel => exact ⟨k + 1, by omega, by go_num, trivial, ⟨by rw [List.take_succ_eq_append_getElem hlt]; simp only [List.mem_append, List.mem_singleton, not_or]; exact ⟨HN.out, fun e => HE.out e.symm⟩⟩⟩
        case measure => simp [intOf]; omega
    · obtain rfl : T.length = k := by omega
      have HE := HN.out
      rw [List.take_length] at HE
      go_wp2
      go_ret
      exact ⟨by simp [HE], rfl⟩

theorem marked_at (g : Nat) (A : Option Addr) (c : Nat) (T : List Nat) (top s : Nat) (x : Int) (hx : x = (s : Int)) (w : World) (h : RW w g A c T top) : Calls Try.prog 33 #[.pointer (some ⟨g, 0, none⟩), .int .u64 x] w fun e w' => e = .returned (.bool (decide (s ∈ T))) ∧ w' = w := by
  subst hx
  exact marked_calls g A c T top s w h

/-- What the document's Check answers. -/
def rcheck (T : List Nat) (top s : Nat) : Int := if top < s then (if 64 < s - top then 92 else 0) else if s = 0 ∨ 64 ≤ top - s then 90 else if s ∈ T then 91 else 0

set_option maxHeartbeats 2000000 in
set_option maxRecDepth 100000 in
theorem rcheck_calls (g : Nat) (A : Option Addr) (c : Nat) (T : List Nat) (top s : Nat) (ht : top < 18446744073709551616) (hs : s < 18446744073709551616) (w : World) (h : RW w g A c T top) : Calls Try.prog 14 #[.pointer (some ⟨g, 0, none⟩), .int .u64 (s : Int)] w fun e w' => e = .returned (.int .i64 (rcheck T top s)) ∧ w' = w := by
  have hu31 := Try.underlying31
  have hu29 := Try.underlying29
  have hu24 := Try.underlying24
  have hu36 := Try.underlying36
  have hcz1 := blk_cell h.blk 1
  have hfz1 := blk_frozen h.blk 1
  simp only [List.getElem?_toArray, List.getElem?_cons_zero, List.getElem?_cons_succ] at hcz1
  have hs0 : (0 : Int) ≤ s := Int.natCast_nonneg s
  have ht0 : (0 : Int) ≤ top := Int.natCast_nonneg top
  have hsb : (s : Int) ≤ 18446744073709551615 := by omega
  have htb : (top : Int) ≤ 18446744073709551615 := by omega
  by_cases c1 : top < s
  · have d1 : (top : Int) < (s : Int) := Int.ofNat_lt.mpr c1
    by_cases c2 : 64 < s - top
    · have d2 : (64 : Int) < (s : Int) - (top : Int) := by omega
      have HC := Aside0.mk (show rcheck T top s = 92 by unfold rcheck; rw [if_pos c1, if_pos c2])
      go_enter Try.func14, Try.ntmps14
      go_wp2
      go_ret
      exact ⟨by first | (rw [HC.out]; done) | (rw [HC.out]; rfl), rfl⟩
    · have d2 : ¬ (64 : Int) < (s : Int) - (top : Int) := by omega
      have HC := Aside0.mk (show rcheck T top s = 0 by unfold rcheck; rw [if_pos c1, if_neg c2])
      go_enter Try.func14, Try.ntmps14
      go_wp2
      go_ret
      exact ⟨by first | (rw [HC.out]; done) | (rw [HC.out]; rfl), rfl⟩
  · have d1 : ¬ (top : Int) < (s : Int) := by omega
    by_cases c0 : s = 0
    · have HC := Aside0.mk (show rcheck T top s = 90 by unfold rcheck; rw [if_neg c1, if_pos (Or.inl c0)])
      subst c0
      go_enter Try.func14, Try.ntmps14
      go_wp2
      go_ret
      exact ⟨by first | (rw [HC.out]; done) | (rw [HC.out]; rfl), rfl⟩
    · have d0 : ¬ (s : Int) = 0 := by omega
      by_cases c2 : 64 ≤ top - s
      · have d2 : (64 : Int) ≤ (top : Int) - (s : Int) := by omega
        have HC := Aside0.mk (show rcheck T top s = 90 by unfold rcheck; rw [if_neg c1, if_pos (Or.inr c2)])
        go_enter Try.func14, Try.ntmps14
        go_wp2
        go_ret
        exact ⟨by first | (rw [HC.out]; done) | (rw [HC.out]; rfl), rfl⟩
      · have d2 : ¬ (64 : Int) ≤ (top : Int) - (s : Int) := by omega
        by_cases c3 : s ∈ T
        · have HC := Aside0.mk (show rcheck T top s = 91 by unfold rcheck; rw [if_neg c1, if_neg (by omega), if_pos c3])
          have d3 : decide (s ∈ T) = true := decide_eq_true c3
          go_enter Try.func14, Try.ntmps14
          go_wp2_with (first | (go_at_call 33; refine (marked_calls g A c T top s _ h).mono ?_; rintro e w1 ⟨rfl, rfl⟩; rw [d3]))
          go_ret
          exact ⟨by first | (rw [HC.out]; done) | (rw [HC.out]; rfl), rfl⟩
        · have HC := Aside0.mk (show rcheck T top s = 0 by unfold rcheck; rw [if_neg c1, if_neg (by omega), if_neg c3])
          have d3 : decide (s ∈ T) = false := decide_eq_false c3
          go_enter Try.func14, Try.ntmps14
          go_wp2_with (first | (go_at_call 33; refine (marked_calls g A c T top s _ h).mono ?_; rintro e w1 ⟨rfl, rfl⟩; rw [d3]))
          go_ret
          exact ⟨by first | (rw [HC.out]; done) | (rw [HC.out]; rfl), rfl⟩

theorem wu64 {x : Int} (h : 0 ≤ x) (h' : x ≤ 18446744073709551615) : IntKind.u64.wrap x = x := by
  show x % 18446744073709551616 = x
  omega
/-- The bits of the document's window, the first n. -/
def rb (T : List Nat) (top : Nat) : Nat → Nat
  | 0 => 0
  | i + 1 => rb T top i + if i < top ∧ top - i ∈ T then 2 ^ i else 0
theorem rb_lt (T : List Nat) (top : Nat) : ∀ n, rb T top n < 2 ^ n
  | 0 => by simp [rb]
  | n + 1 => by
    have := rb_lt T top n
    unfold rb
    rw [Nat.pow_succ]
    split <;> omega

/-- The two spellings of the bits are one. -/
theorem rb_mod {T : List Nat} {top bi : Nat} (h : ∀ j, j < 64 → (bi.testBit j = true ↔ j < top ∧ top - j ∈ T)) : ∀ n, n ≤ 64 → rb T top n = bi % 2 ^ n
  | 0, _ => by simp [rb, Nat.mod_one]
  | n + 1, hn => by
    have hb := h n (by omega)
    rw [Nat.testBit_eq_decide_div_mod_eq, decide_eq_true_iff] at hb
    rw [Nat.pow_succ, Nat.mod_mul, rb, rb_mod h n (by omega)]
    by_cases c : n < top ∧ top - n ∈ T
    · rw [if_pos c, hb.2 c, Nat.mul_one]
    · have h0 : bi / 2 ^ n % 2 = 0 := by
        have : bi / 2 ^ n % 2 ≠ 1 := fun e => c (hb.1 e)
        omega
      rw [if_neg c, h0, Nat.mul_zero]
theorem rb_eq {T : List Nat} {top bi : Nat} (hb : bi < 2 ^ 64) (h : ∀ j, j < 64 → (bi.testBit j = true ↔ j < top ∧ top - j ∈ T)) : rb T top 64 = bi := by
  rw [rb_mod h 64 (Nat.le_refl _), Nat.mod_eq_of_lt hb]

set_option maxHeartbeats 4000000 in
set_option maxRecDepth 100000 in
theorem rbits_calls (g : Nat) (A : Option Addr) (c : Nat) (T : List Nat) (top : Nat) (ht : top < 18446744073709551616) (w : World) (h : RW w g A c T top) : Calls Try.prog 34 #[.pointer (some ⟨g, 0, none⟩)] w fun e w' => e = .returned (.int .u64 ((rb T top 64 : Nat) : Int)) ∧ w' = w := by
  have hu31 := Try.underlying31
  have hu29 := Try.underlying29
  have hu24 := Try.underlying24
  have hu28 := Try.underlying28
  have hcz1 := blk_cell h.blk 1
  have hfz1 := blk_frozen h.blk 1
  simp only [List.getElem?_toArray, List.getElem?_cons_zero, List.getElem?_cons_succ] at hcz1
  have ht0 : (0 : Int) ≤ top := Int.natCast_nonneg top
  have htb : (top : Int) ≤ 18446744073709551615 := by omega
  go_enter Try.func34, Try.ntmps34
  go_wp2_with fail
  go_loopw [3, 4, 5] (fun n p i wr => ∃ k m q : Nat, k ≤ 64 ∧ i = .int .u64 k ∧ n = .int .u64 m ∧ p = .int .u64 q ∧ wr = w ∧ Aside0 (m = rb T top k) ∧ Aside0 (k < 64 → q = 2 ^ k)) (fun _ _ i _ => 64 - (intOf i).toNat)
  case atStart => exact ⟨0, 0, 1, by omega, rfl, rfl, rfl, rfl, ⟨rfl⟩, ⟨fun _ => rfl⟩⟩
  case round =>
    obtain ⟨k, m, q, hk, rfl, rfl, rfl, ew, HM, HQ⟩ := hrel
    subst ew
    by_cases hlt : k < 64
    · have hk2 : (k : Int) < 64 := by omega
      have hk0 : (0 : Int) ≤ k := Int.natCast_nonneg k
      have hm0 : (0 : Int) ≤ m := Int.natCast_nonneg m
      have hq0 : (0 : Int) ≤ q := Int.natCast_nonneg q
      have hmlt : m < 2 ^ k := HM.out ▸ rb_lt T top k
      have hqe : q = 2 ^ k := HQ.out hlt
      have hq64 : q ≤ 9223372036854775808 := by
        rw [hqe]
        exact Nat.pow_le_pow_right (by decide) (Nat.le_of_lt_succ hlt)
      have hmq : (m : Int) + q ≤ 18446744073709551615 := by omega
      have hmb : (m : Int) ≤ 9223372036854775807 := by omega
      have hqb : (q : Int) ≤ 9223372036854775808 := by omega
      obtain ⟨q2, HW, HQ2⟩ : ∃ q2 : Nat, Aside0 (IntKind.u64.wrap (2 * (q : Int)) = (q2 : Int)) ∧ Aside0 (k + 1 < 64 → q2 = 2 ^ (k + 1)) := by
        by_cases c : k + 1 < 64
        · have h2 : 2 ^ (k + 1) ≤ 2 ^ 63 := Nat.pow_le_pow_right (by decide) (by omega)
          have h3 : 2 ^ (k + 1) = 2 * q := by rw [Nat.pow_succ, ← hqe]; omega
          rw [h3] at h2
          exact ⟨2 * q, ⟨by rw [wu64 (by omega) (by omega)]; omega⟩, ⟨fun _ => h3.symm⟩⟩
        · have h3 : k = 63 := by omega
          have h4 : (q : Int) = 9223372036854775808 := by rw [hqe, h3]; rfl
          exact ⟨0, ⟨by rw [h4]; rfl⟩, ⟨fun h => absurd h c⟩⟩
      have HQE := Aside0.mk hqe
      clear hqe hmlt hq64
      have hW := HW.out
      by_cases c1 : k < top
      · have d1 : (k : Int) < (top : Int) := Int.ofNat_lt.mpr c1
        by_cases c2 : top - k ∈ T
        · have d3 : decide (top - k ∈ T) = true := decide_eq_true c2
          have HR := Aside0.mk (show rb T top (k + 1) = rb T top k + 2 ^ k by rw [rb, if_pos ⟨c1, c2⟩])
          clear c2
          go_wp2_with (first | (go_at_call 33; refine (marked_at g A c T top (top - k) _ (by omega) _ h).mono ?_; rintro e w1 ⟨rfl, rfl⟩; rw [d3]))
          go_roundw
          case rel => exact ⟨k + 1, m + q, q2, by omega, by go_num, by go_num, by go_num, trivial, ⟨by rw [HR.out, HM.out, HQE.out]⟩, HQ2⟩
          case measure => simp [intOf]; omega
        · have d3 : decide (top - k ∈ T) = false := decide_eq_false c2
          have HR := Aside0.mk (show rb T top (k + 1) = rb T top k by rw [rb, if_neg (fun h => c2 h.2)]; rfl)
          clear c2
          go_wp2_with (first | (go_at_call 33; refine (marked_at g A c T top (top - k) _ (by omega) _ h).mono ?_; rintro e w1 ⟨rfl, rfl⟩; rw [d3]))
          go_roundw
          case rel => exact ⟨k + 1, m, q2, by omega, by go_num, by go_num, by go_num, trivial, ⟨by rw [HR.out, HM.out]⟩, HQ2⟩
          case measure => simp [intOf]; omega
      · have d1 : ¬ (k : Int) < (top : Int) := by omega
        have HR := Aside0.mk (show rb T top (k + 1) = rb T top k by rw [rb, if_neg (fun h => c1 h.1)]; rfl)
        go_wp2_with fail
        go_roundw
        case rel => exact ⟨k + 1, m, q2, by omega, by go_num, by go_num, by go_num, trivial, ⟨by rw [HR.out, HM.out]⟩, HQ2⟩
        case measure => simp [intOf]; omega
    · obtain rfl : k = 64 := by omega
      go_wp2_with fail
      go_ret
      exact ⟨by rw [HM.out]; rfl, rfl⟩
end Go.Proofs.Ytidjnpfpbbffjaa.Scr
