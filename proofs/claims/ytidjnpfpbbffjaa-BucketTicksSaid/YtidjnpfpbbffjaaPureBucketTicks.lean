/- Proved: any bucket's ticks at a stroke are as many one by one, as the law tries it; for every input. -/
import Derived.Test.YtidjnpfpbbffjaaPBucketTicksx3
import Derived.KernelRfl
import Derived.OpenShut
namespace Go.Proofs.Ytidjnpfpbbffjaa.Pure
open Go.RowKit Go.Proofs.Ytidjnpfpbbffjaa.PBucketTicks Go.Proofs.YtidjnpfpbbffjaaW.PrintWords Go.Proofs.YtidjnpfpbbffjaaW.PrintLast

theorem wu64 {x : Int} (h : 0 ≤ x) (h' : x ≤ 18446744073709551615) : IntKind.u64.wrap x = x := by
  show x % 18446744073709551616 = x
  omega

theorem w64 {x : Int} (h : -9223372036854775808 ≤ x) (h' : x ≤ 9223372036854775807) : wrap64 x = x := by
  unfold wrap64
  omega

theorem fixed_ok : joustlaw08_fixed.f 1 = some true := by kernel_rfl

theorem left_ok (r m h : Int) (h0 : 0 ≤ h) (h1 : h ≤ 100000) : bucket_Bucket_Left.f r m h = some (h / 16, r, m, h) := by
  unfold bucket_Bucket_Left.f
  have e : Int.tdiv h 16 = h / 16 := Int.tdiv_eq_ediv_of_nonneg h0
  rw [e, w64 (by omega) (by omega)]

theorem take_no (r m h : Int) (h0 : h < 16) : bucket_Bucket_Take.f r m h = some (80, r, m, h) := by
  unfold bucket_Bucket_Take.f
  rw [if_pos h0]

theorem take_yes (r m h : Int) (h0 : 16 ≤ h) (h1 : h ≤ 100000) : bucket_Bucket_Take.f r m h = some (0, r, m, h - 16) := by
  unfold bucket_Bucket_Take.f
  rw [if_neg (by omega), w64 (by omega) (by omega)]

theorem mul_bd (r n : Int) (hr0 : 0 ≤ r) (hr1 : r ≤ 1000) (hn0 : 0 ≤ n) (hn1 : n ≤ 16000) : 0 ≤ r * n ∧ r * n ≤ 16000000 := by
  constructor
  · exact Int.mul_nonneg hr0 hn0
  · have := Int.mul_le_mul hr1 hn1 hn0 (by omega : (0 : Int) ≤ 1000)
    omega

theorem ticks_ok (r m h n : Int) (hr0 : 0 ≤ r) (hr1 : r ≤ 1000) (h0 : 0 ≤ h) (h1 : h ≤ 100000) (hn0 : 0 ≤ n) (_hm : 0 ≤ m) (_hm' : m ≤ 100000) :
    bucket_Bucket_Ticks.f r m h n = some (r, m, min (h + r * min n 16000) m) := by
  have hb := mul_bd r (min n 16000) hr0 hr1 (by omega) (by omega)
  unfold bucket_Bucket_Ticks.f
  have e1 : mn n 16000 = min n 16000 := by unfold mn; omega
  rw [e1, w64 (x := min n 16000) (by omega) (by omega), w64 (x := r * min n 16000) (by omega) (by omega), w64 (x := h + r * min n 16000) (by omega) (by omega)]
  have e2 : mn (h + r * min n 16000) m = min (h + r * min n 16000) m := by unfold mn; omega
  rw [e2]

theorem tick_ok (r m h : Int) (hr0 : 0 ≤ r) (hr1 : r ≤ 1000) (h0 : 0 ≤ h) (h1 : h ≤ 100000) (hm : 0 ≤ m) (hm' : m ≤ 100000) :
    bucket_Bucket_Tick.f r m h = some (r, m, min (h + r) m) := by
  unfold bucket_Bucket_Tick.f
  rw [ticks_ok r m h 1 hr0 hr1 h0 h1 (by omega) hm hm']
  have e : min (1 : Int) 16000 = 1 := by omega
  simp only [Option.bind_some, e, Int.mul_one]

theorem brought_ok (n lo hi : Int) (h0 : 0 ≤ lo) (h1 : lo ≤ hi) (h2 : hi ≤ 1000) : ∃ k, joustlaw08_brought.f n lo hi = some k ∧ lo ≤ k ∧ k ≤ hi := by
  unfold joustlaw08_brought.f
  have e1 : wrap64 (wrap64 (hi - lo) + 1) = hi - lo + 1 := by rw [w64 (x := hi - lo) (by omega) (by omega), w64 (by omega) (by omega)]
  rw [e1, if_neg (by omega)]
  have hlt : Int.tmod n (hi - lo + 1) < hi - lo + 1 := Int.tmod_lt_of_pos n (by omega)
  have hgt : -(hi - lo + 1) < Int.tmod n (hi - lo + 1) := by
    have := Int.lt_tmod_of_pos n (show 0 < hi - lo + 1 by omega)
    omega
  generalize Int.tmod n (hi - lo + 1) = t at hlt hgt ⊢
  by_cases ht : t < 0
  · rw [if_pos ht]
    refine ⟨_, rfl, ?_⟩
    rw [w64 (x := t + hi) (by omega) (by omega), w64 (x := t + hi - lo) (by omega) (by omega), w64 (x := t + hi - lo + 1) (by omega) (by omega), w64 (by omega) (by omega)]
    omega
  · rw [if_neg ht]
    refine ⟨_, rfl, ?_⟩
    rw [w64 (by omega) (by omega)]
    omega

theorem new_ok (r m : Int) (hr0 : 0 ≤ r) (hr1 : r ≤ 1000) (hm0 : 1 ≤ m) (hm1 : m ≤ 1000) : bucket_New.f r m = some (r, 16 * m, 16 * m, 0) := by
  unfold bucket_New.f
  rw [if_neg (by omega), if_neg (by omega), if_neg (by omega), if_neg (by omega), w64 (by omega) (by omega)]

theorem full_ok (a0 a1 : Int) : ∃ r m, 0 ≤ r ∧ r ≤ 1000 ∧ 1 ≤ m ∧ m ≤ 1000 ∧ joustlaw08_full.f 1 a0 a1 = some (r, 16 * m, 16 * m, r, m, true) := by
  obtain ⟨r, er, r0, r1⟩ := brought_ok a0 0 1000 (by omega) (by omega) (by omega)
  obtain ⟨m, em, m0, m1⟩ := brought_ok a1 1 1000 (by omega) (by omega) (by omega)
  refine ⟨r, m, r0, r1, m0, m1, ?_⟩
  unfold joustlaw08_full.f
  rw [er, em]
  simp only [Option.bind_some]
  rw [new_ok r m r0 r1 m0 m1]
  simp only [Option.bind_some, if_true]
  rw [left_ok r (16 * m) (16 * m) (by omega) (by omega)]
  simp only [Option.bind_some]
  rw [if_pos (by omega), fixed_ok]
  rfl

theorem same_steps (d : Nat) : ∀ (k : Nat) (x r m h : Int), 0 ≤ x → x + d = 17 → d < k → 0 ≤ r → r ≤ 1000 → 0 ≤ h → h ≤ m → m ≤ 16000 → joustlaw08_BucketTicks.l2 k x r m h r m h = some true := by
  induction d with
  | zero =>
    intro k x r m h x0 hx hk r0 r1 h0 h1 m1
    obtain ⟨k, rfl⟩ : ∃ j, k = j + 1 := ⟨k - 1, by omega⟩
    simp only [joustlaw08_BucketTicks.l2]
    rw [if_neg (by omega)]
  | succ d ih =>
    intro k x r m h x0 hx hk r0 r1 h0 h1 m1
    obtain ⟨k, rfl⟩ : ∃ j, k = j + 1 := ⟨k - 1, by omega⟩
    simp only [joustlaw08_BucketTicks.l2]
    rw [if_pos (by omega), left_ok r m h h0 (by omega)]
    simp only [Option.bind_some, if_true]
    rw [tick_ok r m h r0 r1 h0 (by omega) (by omega) (by omega)]
    simp only [Option.bind_some]
    rw [w64 (by omega) (by omega)]
    exact ih k (x + 1) r m _ (by omega) (by omega) (by omega) r0 r1 (by omega) (by omega) m1

theorem behind (k : Nat) (n r m H : Int) (hk : 20 < k) (hr0 : 0 ≤ r) (hr1 : r ≤ 1000) (hm0 : 1 ≤ m) (hm1 : m ≤ 1000) (hH0 : 0 ≤ H) (hH1 : H ≤ 16 * m)
    (hz : r = 0 → H = 16 * (m - m / 2 - 1)) (hf : 16000 ≤ n → 0 < r → H = 16 * m) : joustlaw08_BucketTicks.j2 k n r m r (16 * m) H r (16 * m) H = some true := by
  obtain ⟨k, rfl⟩ : ∃ j, k = j + 1 := ⟨k - 1, by omega⟩
  obtain ⟨k, rfl⟩ : ∃ j, k = j + 1 := ⟨k - 1, by omega⟩
  have hs := same_steps 17 k 0 r (16 * m) H (by omega) (by omega) (by omega) hr0 hr1 hH0 hH1 (by omega)
  have hj : joustlaw08_BucketTicks.j3 (k + 1) false r (16 * m) H r (16 * m) H = some true := by
    simp only [joustlaw08_BucketTicks.j3]
    rw [if_neg (by simp)]
    exact hs
  have ed : Int.tdiv m 2 = m / 2 := Int.tdiv_eq_ediv_of_nonneg (by omega)
  rw [joustlaw08_BucketTicks.j2, left_ok r (16 * m) H hH0 (by omega), ed, w64 (x := m / 2) (by omega) (by omega), w64 (x := m - m / 2) (by omega) (by omega), w64 (x := m - m / 2 - 1) (by omega) (by omega)]
  simp only [Option.bind_some]
  by_cases hr : r = 0
  · rw [if_pos hr, if_pos (by have := hz hr; omega)]
    by_cases hn : n ≥ 16000
    · rw [if_pos hn, if_neg (by omega)]
      exact hj
    · rw [if_neg hn]
      exact hj
  · rw [if_neg hr]
    by_cases hn : n ≥ 16000
    · rw [if_pos hn, if_pos (by omega)]
      have e : H / 16 = m := by have := hf hn (by omega); omega
      have eb : (H / 16 != m) = false := by simp [e]
      rw [eb]
      exact hj
    · rw [if_neg hn]
      exact hj

theorem one_by_one (d : Nat) : ∀ (k : Nat) (n r m h0 j : Int), 0 ≤ j → j + d = min n 16000 → d + 30 < k → 0 ≤ r → r ≤ 1000 → 1 ≤ m → m ≤ 1000 → h0 = 16 * (m - m / 2 - 1) → 0 ≤ n →
    joustlaw08_BucketTicks.l1 k n r m j r (16 * m) (min (h0 + r * min n 16000) (16 * m)) r (16 * m) (min (h0 + r * j) (16 * m)) = some true := by
  induction d with
  | zero =>
    intro k n r m h0 j j0 hj hk r0 r1 m0 m1 hh n0
    obtain ⟨k, rfl⟩ : ∃ i, k = i + 1 := ⟨k - 1, by omega⟩
    have ej : j = min n 16000 := by omega
    have hb := mul_bd r (min n 16000) r0 r1 (by omega) (by omega)
    have hbe := behind k n r m (min (h0 + r * min n 16000) (16 * m)) (by omega) r0 r1 m0 m1 (by omega) (by omega)
      (fun hr => by subst hr; rw [Int.zero_mul]; omega)
      (fun hn hr => by
        have e : min n 16000 = 16000 := by omega
        rw [e]
        have := Int.mul_le_mul_of_nonneg_right (show (1 : Int) ≤ r by omega) (show (0 : Int) ≤ 16000 by omega)
        omega)
    simp only [joustlaw08_BucketTicks.l1]
    rw [ej]
    by_cases h1 : min n 16000 < n
    · rw [if_pos h1, if_neg (by omega)]
      exact hbe
    · rw [if_neg h1]
      exact hbe
  | succ d ih =>
    intro k n r m h0 j j0 hj hk r0 r1 m0 m1 hh n0
    obtain ⟨k, rfl⟩ : ∃ i, k = i + 1 := ⟨k - 1, by omega⟩
    have hb := mul_bd r j r0 r1 (by omega) (by omega)
    have hi := ih k n r m h0 (j + 1) (by omega) (by omega) (by omega) r0 r1 m0 m1 hh n0
    simp only [joustlaw08_BucketTicks.l1]
    rw [if_pos (by omega), if_pos (by omega), tick_ok r (16 * m) _ r0 r1 (by omega) (by omega) (by omega) (by omega)]
    simp only [Option.bind_some]
    rw [wu64 (by omega) (by omega)]
    have e : min (min (h0 + r * j) (16 * m) + r) (16 * m) = min (h0 + r * (j + 1)) (16 * m) := by
      rw [Int.mul_add, Int.mul_one]
      omega
    rw [e]
    exact hi

theorem takes (d : Nat) : ∀ (k : Nat) (n r m i : Int), 0 ≤ i → i + d = m / 2 + 1 → d + 16100 < k → 0 ≤ r → r ≤ 1000 → 1 ≤ m → m ≤ 1000 → 0 ≤ n →
    joustlaw08_BucketTicks.l0 k n r m i r (16 * m) (16 * (m - i)) = some true := by
  induction d with
  | zero =>
    intro k n r m i i0 hi hk r0 r1 m0 m1 n0
    obtain ⟨k, rfl⟩ : ∃ j, k = j + 1 := ⟨k - 1, by omega⟩
    have ed : Int.tdiv m 2 = m / 2 := Int.tdiv_eq_ediv_of_nonneg (by omega)
    have ho := one_by_one (min n 16000).toNat k n r m (16 * (m - m / 2 - 1)) 0 (by omega) (by omega) (by omega) r0 r1 m0 m1 rfl n0
    simp only [joustlaw08_BucketTicks.l0]
    rw [ed, w64 (x := m / 2) (by omega) (by omega), w64 (x := m / 2 + 1) (by omega) (by omega), if_neg (by omega), ticks_ok r (16 * m) (16 * (m - i)) n r0 r1 (by omega) (by omega) n0 (by omega) (by omega)]
    simp only [Option.bind_some]
    have e1 : 16 * (m - i) = 16 * (m - m / 2 - 1) := by omega
    rw [e1]
    rw [Int.mul_zero] at ho
    have e2 : min (16 * (m - m / 2 - 1) + 0) (16 * m) = 16 * (m - m / 2 - 1) := by omega
    rw [e2] at ho
    exact ho
  | succ d ih =>
    intro k n r m i i0 hi hk r0 r1 m0 m1 n0
    obtain ⟨k, rfl⟩ : ∃ j, k = j + 1 := ⟨k - 1, by omega⟩
    have ed : Int.tdiv m 2 = m / 2 := Int.tdiv_eq_ediv_of_nonneg (by omega)
    simp only [joustlaw08_BucketTicks.l0]
    rw [ed, w64 (x := m / 2) (by omega) (by omega), w64 (x := m / 2 + 1) (by omega) (by omega), if_pos (by omega), take_yes r (16 * m) _ (by omega) (by omega)]
    simp only [Option.bind_some, if_true]
    rw [w64 (by omega) (by omega)]
    have e : 16 * (m - i) - 16 = 16 * (m - (i + 1)) := by omega
    rw [e]
    exact ih k n r m (i + 1) (by omega) (by omega) (by omega) r0 r1 m0 m1 n0

theorem BucketTicks : joustlaw08_BucketTicks.Pure := by
  intro a0 a1 a2 _ _ h2
  have n0 : 0 ≤ a2 := (Go.bounds_u64 h2).1
  obtain ⟨r, m, r0, r1, m0, m1, hf⟩ := full_ok a0 a1
  refine ⟨20000, ?_⟩
  have hk := at_rounds (g := fun k => joustlaw08_full.f k a0 a1) (joustlaw08_full.mono a0 a1) (k := 1) (k' := 20000) (by omega) hf
  unfold joustlaw08_BucketTicks.f
  rw [hk]
  simp only [Option.bind_some, if_true]
  have ht := takes (m / 2 + 1).toNat 20000 a2 r m 0 (by omega) (by omega) (by omega) r0 r1 m0 m1 n0
  rw [Int.sub_zero] at ht
  exact ht

end Go.Proofs.Ytidjnpfpbbffjaa.Pure
