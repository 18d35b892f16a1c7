/- Proved: the plain law of BucketLeft, on numbers and lists. -/
import Derived.Test.YtidjnpfpbbffjaaPBucketLeftx3
import Derived.KernelRfl
import Derived.OpenShut
namespace Go.Proofs.Ytidjnpfpbbffjaa.Pure
open Go.RowKit Go.Proofs.Ytidjnpfpbbffjaa.PBucketLeft Go.Proofs.YtidjnpfpbbffjaaW.PrintWords Go.Proofs.YtidjnpfpbbffjaaW.PrintLast

theorem wu64 {x : Int} (h : 0 ≤ x) (h' : x ≤ 18446744073709551615) : IntKind.u64.wrap x = x := by
  show x % 18446744073709551616 = x
  omega

theorem w64 {x : Int} (h : -9223372036854775808 ≤ x) (h' : x ≤ 9223372036854775807) : wrap64 x = x := by
  unfold wrap64
  omega

theorem fixed_ok : joustlaw08_fixed.f 1 = some true := by kernel_rfl

theorem left_ok (r m h : Int) (h0 : 0 ≤ h) (h1 : h ≤ 100000) : bucket_Bucket_Left.f r m h = some (h / 16, r, m, h) := by
  unfold bucket_Bucket_Left.f
  have e : Int.tdiv h 16 = h / 16 := Int.tdiv_eq_ediv_of_nonneg h0
  rw [e, w64 (by omega) (by omega)]

theorem take_no (r m h : Int) (h0 : h < 16) : bucket_Bucket_Take.f r m h = some (80, r, m, h) := by
  unfold bucket_Bucket_Take.f
  rw [if_pos h0]

theorem take_yes (r m h : Int) (h0 : 16 ≤ h) (h1 : h ≤ 100000) : bucket_Bucket_Take.f r m h = some (0, r, m, h - 16) := by
  unfold bucket_Bucket_Take.f
  rw [if_neg (by omega), w64 (by omega) (by omega)]

theorem mul_bd (r n : Int) (hr0 : 0 ≤ r) (hr1 : r ≤ 1000) (hn0 : 0 ≤ n) (hn1 : n ≤ 16000) : 0 ≤ r * n ∧ r * n ≤ 16000000 := by
  constructor
  · exact Int.mul_nonneg hr0 hn0
  · have := Int.mul_le_mul hr1 hn1 hn0 (by omega : (0 : Int) ≤ 1000)
    omega

theorem ticks_ok (r m h n : Int) (hr0 : 0 ≤ r) (hr1 : r ≤ 1000) (h0 : 0 ≤ h) (h1 : h ≤ 100000) (hn0 : 0 ≤ n) (_hm : 0 ≤ m) (_hm' : m ≤ 100000) :
    bucket_Bucket_Ticks.f r m h n = some (r, m, min (h + r * min n 16000) m) := by
  have hb := mul_bd r (min n 16000) hr0 hr1 (by omega) (by omega)
  unfold bucket_Bucket_Ticks.f
  have e1 : mn n 16000 = min n 16000 := by unfold mn; omega
  rw [e1, w64 (x := min n 16000) (by omega) (by omega), w64 (x := r * min n 16000) (by omega) (by omega), w64 (x := h + r * min n 16000) (by omega) (by omega)]
  have e2 : mn (h + r * min n 16000) m = min (h + r * min n 16000) m := by unfold mn; omega
  rw [e2]

theorem tick_ok (r m h : Int) (hr0 : 0 ≤ r) (hr1 : r ≤ 1000) (h0 : 0 ≤ h) (h1 : h ≤ 100000) (hm : 0 ≤ m) (hm' : m ≤ 100000) :
    bucket_Bucket_Tick.f r m h = some (r, m, min (h + r) m) := by
  unfold bucket_Bucket_Tick.f
  rw [ticks_ok r m h 1 hr0 hr1 h0 h1 (by omega) hm hm']
  have e : min (1 : Int) 16000 = 1 := by omega
  simp only [Option.bind_some, e, Int.mul_one]

theorem brought_ok (n lo hi : Int) (h0 : 0 ≤ lo) (h1 : lo ≤ hi) (h2 : hi ≤ 1000) : ∃ k, joustlaw08_brought.f n lo hi = some k ∧ lo ≤ k ∧ k ≤ hi := by
  unfold joustlaw08_brought.f
  have e1 : wrap64 (wrap64 (hi - lo) + 1) = hi - lo + 1 := by rw [w64 (x := hi - lo) (by omega) (by omega), w64 (by omega) (by omega)]
  rw [e1, if_neg (by omega)]
  have hlt : Int.tmod n (hi - lo + 1) < hi - lo + 1 := Int.tmod_lt_of_pos n (by omega)
  have hgt : -(hi - lo + 1) < Int.tmod n (hi - lo + 1) := by
    have := Int.lt_tmod_of_pos n (show 0 < hi - lo + 1 by omega)
    omega
  generalize Int.tmod n (hi - lo + 1) = t at hlt hgt ⊢
  by_cases ht : t < 0
  · rw [if_pos ht]
    refine ⟨_, rfl, ?_⟩
    rw [w64 (x := t + hi) (by omega) (by omega), w64 (x := t + hi - lo) (by omega) (by omega), w64 (x := t + hi - lo + 1) (by omega) (by omega), w64 (by omega) (by omega)]
    omega
  · rw [if_neg ht]
    refine ⟨_, rfl, ?_⟩
    rw [w64 (by omega) (by omega)]
    omega

theorem new_ok (r m : Int) (hr0 : 0 ≤ r) (hr1 : r ≤ 1000) (hm0 : 1 ≤ m) (hm1 : m ≤ 1000) : bucket_New.f r m = some (r, 16 * m, 16 * m, 0) := by
  unfold bucket_New.f
  rw [if_neg (by omega), if_neg (by omega), if_neg (by omega), if_neg (by omega), w64 (by omega) (by omega)]

theorem full_ok (a0 a1 : Int) : ∃ r m, 0 ≤ r ∧ r ≤ 1000 ∧ 1 ≤ m ∧ m ≤ 1000 ∧ joustlaw08_full.f 1 a0 a1 = some (r, 16 * m, 16 * m, r, m, true) := by
  obtain ⟨r, er, r0, r1⟩ := brought_ok a0 0 1000 (by omega) (by omega) (by omega)
  obtain ⟨m, em, m0, m1⟩ := brought_ok a1 1 1000 (by omega) (by omega) (by omega)
  refine ⟨r, m, r0, r1, m0, m1, ?_⟩
  unfold joustlaw08_full.f
  rw [er, em]
  simp only [Option.bind_some]
  rw [new_ok r m r0 r1 m0 m1]
  simp only [Option.bind_some, if_true]
  rw [left_ok r (16 * m) (16 * m) (by omega) (by omega)]
  simp only [Option.bind_some]
  rw [if_pos (by omega), fixed_ok]
  rfl

theorem rd62 (l : List S62) (h : ∀ x ∈ l, 0 ≤ x.f1) (i : Int) (h0 : 0 ≤ i) (h1 : i < (l.length : Int)) : 0 ≤ (rd_T62 l i).f1 := by
  have hi : i.toNat < l.length := by omega
  have e : rd_T62 l i = l[i.toNat] := by unfold rd_T62; simp [hi]
  rw [e]
  exact h _ (List.getElem_mem hi)

theorem last_takes (d : Nat) : ∀ (k : Nat) (r M h0 i : Int), 0 ≤ i → i + d = h0 / 16 → d + 1 < k → 0 ≤ h0 → h0 ≤ 16000 →
    joustlaw08_BucketLeft.l1 k (h0 / 16) i r M (h0 - 16 * i) r M h0 = some true := by
  induction d with
  | zero =>
    intro k r M h0 i i0 hi hk hh0 hh1
    obtain ⟨k, rfl⟩ : ∃ j, k = j + 1 := ⟨k - 1, by omega⟩
    simp only [joustlaw08_BucketLeft.l1]
    rw [if_neg (by omega), take_no r M _ (by omega)]
    simp only [Option.bind_some, if_true]
    rw [left_ok r M _ (by omega) (by omega), left_ok r M h0 hh0 (by omega)]
    simp only [Option.bind_some]
    rw [if_pos (by omega)]
    simp
  | succ d ih =>
    intro k r M h0 i i0 hi hk hh0 hh1
    obtain ⟨k, rfl⟩ : ∃ j, k = j + 1 := ⟨k - 1, by omega⟩
    simp only [joustlaw08_BucketLeft.l1]
    rw [if_pos (by omega), take_yes r M _ (by omega) (by omega)]
    simp only [Option.bind_some, if_true]
    rw [left_ok r M _ (by omega) (by omega)]
    simp only [Option.bind_some]
    rw [w64 (x := h0 / 16 - i) (by omega) (by omega), w64 (x := h0 / 16 - i - 1) (by omega) (by omega), if_pos (by omega), w64 (x := i + 1) (by omega) (by omega)]
    have e : h0 - 16 * i - 16 = h0 - 16 * (i + 1) := by omega
    rw [e]
    exact ih k r M h0 (i + 1) (by omega) (by omega) (by omega) hh0 hh1

theorem script (l : List S62) (hl : ∀ x ∈ l, 0 ≤ x.f1) (d : Nat) : ∀ (k : Nat) (r m h i : Int), 0 ≤ i → i + d = 300 → 3 * d + 1210 < k → 0 ≤ r → r ≤ 1000 → 1 ≤ m → m ≤ 1000 → 0 ≤ h → h ≤ 16 * m →
    joustlaw08_BucketLeft.l0 k l m i r (16 * m) h = some true := by
  have fin : ∀ (k : Nat) (r m h i : Int), 1200 < k → 0 ≤ h → h ≤ 16 * m → 1 ≤ m → m ≤ 1000 → joustlaw08_BucketLeft.j1 k l m i false r (16 * m) h = some true := by
    intro k r m h i hk h0 h1 m0 m1
    obtain ⟨k, rfl⟩ : ∃ j, k = j + 1 := ⟨k - 1, by omega⟩
    have ht := last_takes (h / 16).toNat k r (16 * m) h 0 (by omega) (by omega) (by omega) h0 (by omega)
    simp only [joustlaw08_BucketLeft.j1]
    rw [if_neg (by simp), left_ok r (16 * m) h h0 (by omega)]
    simp only [Option.bind_some]
    rw [Int.mul_zero, Int.sub_zero] at ht
    exact ht
  induction d with
  | zero =>
    intro k r m h i i0 hi hk r0 r1 m0 m1 h0 h1
    obtain ⟨k, rfl⟩ : ∃ j, k = j + 1 := ⟨k - 1, by omega⟩
    have hd : decide (i < 300) = false := by simp; omega
    have hf := fin k r m h i (by omega) h0 h1 m0 m1
    simp only [joustlaw08_BucketLeft.l0]
    rw [hd]
    by_cases hlt : i < (l.length : Int)
    · rw [if_pos hlt]
      exact hf
    · rw [if_neg hlt]
      exact hf
  | succ d ih =>
    intro k r m h i i0 hi hk r0 r1 m0 m1 h0 h1
    obtain ⟨k, rfl⟩ : ∃ j, k = j + 1 := ⟨k - 1, by omega⟩
    have hd : decide (i < 300) = true := by simp; omega
    by_cases hlt : i < (l.length : Int)
    · have hf1 := rd62 l hl i i0 hlt
      obtain ⟨k, rfl⟩ : ∃ j, k = j + 1 := ⟨k - 1, by omega⟩
      obtain ⟨k, rfl⟩ : ∃ j, k = j + 1 := ⟨k - 1, by omega⟩
      have go : ∀ h', 0 ≤ h' → h' ≤ 16 * m → joustlaw08_BucketLeft.j2 (k + 1) l m i r (16 * m) h' = some true := by
        intro h' h0' h1'
        simp only [joustlaw08_BucketLeft.j2]
        rw [left_ok r (16 * m) h' h0' (by omega)]
        simp only [Option.bind_some]
        rw [if_neg (by omega), if_neg (by omega), w64 (by omega) (by omega)]
        exact ih k r m h' (i + 1) (by omega) (by omega) (by omega) r0 r1 m0 m1 h0' h1'
      simp only [joustlaw08_BucketLeft.l0]
      rw [if_pos hlt, hd]
      simp only [joustlaw08_BucketLeft.j1]
      rw [if_pos trivial, if_pos i0, if_pos hlt]
      by_cases c1 : (rd_T62 l i).f0 = 1
      · rw [if_pos c1]
        by_cases c : h < 16
        · rw [take_no r (16 * m) h c]
          exact go h h0 h1
        · rw [take_yes r (16 * m) h (by omega) (by omega)]
          exact go (h - 16) (by omega) (by omega)
      · rw [if_neg c1]
        by_cases c2 : (rd_T62 l i).f0 = 2
        · rw [if_pos c2, tick_ok r (16 * m) h r0 r1 h0 (by omega) (by omega) (by omega)]
          simp only [Option.bind_some]
          exact go _ (by omega) (by omega)
        · rw [if_neg c2]
          by_cases c3 : (rd_T62 l i).f0 = 3
          · have hb := mul_bd r (min (rd_T62 l i).f1 16000) r0 r1 (by omega) (by omega)
            rw [if_pos c3, ticks_ok r (16 * m) h _ r0 r1 h0 (by omega) hf1 (by omega) (by omega)]
            simp only [Option.bind_some]
            exact go _ (by omega) (by omega)
          · rw [if_neg c3]
            exact go h h0 h1
    · have hf := fin k r m h i (by omega) h0 h1 m0 m1
      simp only [joustlaw08_BucketLeft.l0]
      rw [if_neg hlt]
      exact hf

theorem BucketLeft (a0 a1 : Int) (l : List S62) (hl : ∀ x ∈ l, 0 ≤ x.f1) : ∃ k, joustlaw08_BucketLeft.f k a0 a1 l = some true := by
  obtain ⟨r, m, r0, r1, m0, m1, hf⟩ := full_ok a0 a1
  refine ⟨20000, ?_⟩
  have hk := at_rounds (g := fun k => joustlaw08_full.f k a0 a1) (joustlaw08_full.mono a0 a1) (k := 1) (k' := 20000) (by omega) hf
  unfold joustlaw08_BucketLeft.f
  rw [hk]
  simp only [Option.bind_some, if_true]
  exact script l hl 300 20000 r m (16 * m) 0 (by omega) (by omega) (by omega) r0 r1 m0 m1 (by omega) (by omega)

end Go.Proofs.Ytidjnpfpbbffjaa.Pure
