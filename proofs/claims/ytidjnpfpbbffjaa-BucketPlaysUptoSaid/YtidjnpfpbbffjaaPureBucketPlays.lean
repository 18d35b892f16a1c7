/- Proved: the plain law of BucketPlays: the bucket and the document's answer go alike. -/
import Derived.Test.YtidjnpfpbbffjaaPBucketPlaysx3
import Derived.KernelRfl
import Derived.OpenShut
import Derived.Laws.BitsLemmas
namespace Go.Proofs.Ytidjnpfpbbffjaa.Pure
open Go.RowKit Go.Proofs.Ytidjnpfpbbffjaa.PBucketPlays Go.Proofs.YtidjnpfpbbffjaaW.PrintWords Go.Proofs.YtidjnpfpbbffjaaW.PrintLast

theorem wu64 {x : Int} (h : 0 ≤ x) (h' : x ≤ 18446744073709551615) : IntKind.u64.wrap x = x := by
  show x % 18446744073709551616 = x
  omega

theorem w64 {x : Int} (h : -9223372036854775808 ≤ x) (h' : x ≤ 9223372036854775807) : wrap64 x = x := by
  unfold wrap64
  omega

theorem fixed_ok : joustlaw08_fixed.f 1 = some true := by kernel_rfl

theorem left_ok (r m h : Int) (h0 : 0 ≤ h) (h1 : h ≤ 100000) : bucket_Bucket_Left.f r m h = some (h / 16, r, m, h) := by
  unfold bucket_Bucket_Left.f
  have e : Int.tdiv h 16 = h / 16 := Int.tdiv_eq_ediv_of_nonneg h0
  rw [e, w64 (by omega) (by omega)]

theorem take_no (r m h : Int) (h0 : h < 16) : bucket_Bucket_Take.f r m h = some (80, r, m, h) := by
  unfold bucket_Bucket_Take.f
  rw [if_pos h0]

theorem take_yes (r m h : Int) (h0 : 16 ≤ h) (h1 : h ≤ 100000) : bucket_Bucket_Take.f r m h = some (0, r, m, h - 16) := by
  unfold bucket_Bucket_Take.f
  rw [if_neg (by omega), w64 (by omega) (by omega)]

theorem mul_bd (r n : Int) (hr0 : 0 ≤ r) (hr1 : r ≤ 1000) (hn0 : 0 ≤ n) (hn1 : n ≤ 16000) : 0 ≤ r * n ∧ r * n ≤ 16000000 := by
  constructor
  · exact Int.mul_nonneg hr0 hn0
  · have := Int.mul_le_mul hr1 hn1 hn0 (by omega : (0 : Int) ≤ 1000)
    omega

theorem ticks_ok (r m h n : Int) (hr0 : 0 ≤ r) (hr1 : r ≤ 1000) (h0 : 0 ≤ h) (h1 : h ≤ 100000) (hn0 : 0 ≤ n) (_hm : 0 ≤ m) (_hm' : m ≤ 100000) :
    bucket_Bucket_Ticks.f r m h n = some (r, m, min (h + r * min n 16000) m) := by
  have hb := mul_bd r (min n 16000) hr0 hr1 (by omega) (by omega)
  unfold bucket_Bucket_Ticks.f
  have e1 : mn n 16000 = min n 16000 := by unfold mn; omega
  rw [e1, w64 (x := min n 16000) (by omega) (by omega), w64 (x := r * min n 16000) (by omega) (by omega), w64 (x := h + r * min n 16000) (by omega) (by omega)]
  have e2 : mn (h + r * min n 16000) m = min (h + r * min n 16000) m := by unfold mn; omega
  rw [e2]

theorem tick_ok (r m h : Int) (hr0 : 0 ≤ r) (hr1 : r ≤ 1000) (h0 : 0 ≤ h) (h1 : h ≤ 100000) (hm : 0 ≤ m) (hm' : m ≤ 100000) :
    bucket_Bucket_Tick.f r m h = some (r, m, min (h + r) m) := by
  unfold bucket_Bucket_Tick.f
  rw [ticks_ok r m h 1 hr0 hr1 h0 h1 (by omega) hm hm']
  have e : min (1 : Int) 16000 = 1 := by omega
  simp only [Option.bind_some, e, Int.mul_one]

theorem new_ok (r m : Int) (hr0 : 0 ≤ r) (hr1 : r ≤ 1000) (hm0 : 1 ≤ m) (hm1 : m ≤ 1000) : bucket_New.f r m = some (r, 16 * m, 16 * m, 0) := by
  unfold bucket_New.f
  rw [if_neg (by omega), if_neg (by omega), if_neg (by omega), if_neg (by omega), w64 (by omega) (by omega)]


theorem rd62 (l : List S62) (h : ∀ x ∈ l, 0 ≤ x.f1) (i : Int) (h0 : 0 ≤ i) (h1 : i < (l.length : Int)) : 0 ≤ (rd_T62 l i).f1 := by
  have hi : i.toNat < l.length := by omega
  have e : rd_T62 l i = l[i.toNat] := by unfold rd_T62; simp [hi]
  rw [e]
  exact h _ (List.getElem_mem hi)

theorem ref_tick (r m h : Int) (hr0 : 0 ≤ r) (hr1 : r ≤ 1000) (h0 : 0 ≤ h) (h1 : h ≤ 100000) : joustref08_Tick.f r m h = some (r, m, min (h + r) m) := by
  unfold joustref08_Tick.f
  rw [w64 (by omega) (by omega)]
  by_cases c : h + r > m
  · rw [if_pos c, show min (h + r) m = m from by omega]
  · rw [if_neg c, show min (h + r) m = h + r from by omega]

theorem ref_ticks_l (n r m : Int) (hr0 : 0 ≤ r) (hr1 : r ≤ 1000) (hn1 : n ≤ 18446744073709551615) (hm : m ≤ 16000) (d : Nat) : ∀ (k : Nat) (i h : Int), 0 ≤ i → i ≤ n → 0 ≤ h → h + d = m → d + 1 < k →
    joustref08_Ticks.l0 k n i r m h = some (r, m, if r = 0 then h else min (h + r * (n - i)) m) := by
  induction d using Nat.strongRecOn with
  | _ d ih =>
    intro k i h i0 i1 h0 hd hk
    obtain ⟨k, rfl⟩ : ∃ j, k = j + 1 := ⟨k - 1, by omega⟩
    simp only [joustref08_Ticks.l0]
    by_cases c : i < n
    · rw [if_pos c]
      by_cases cr : r > 0
      · rw [if_pos cr]
        by_cases cm : h < m
        · rw [if_pos cm, ref_tick r m h hr0 hr1 h0 (by omega)]
          simp only [Option.bind_some]
          have hw : IntKind.u64.wrap (i + 1) = i + 1 := wu64 (by omega) (by omega)
          have hi := ih (m - min (h + r) m).toNat (by omega) k (i + 1) (min (h + r) m) (by omega) (by omega) (by omega) (by omega) (by omega)
          rw [hw, hi, if_neg (by omega), if_neg (by omega)]
          have e : r * (n - i) = r * (n - (i + 1)) + r := by
            rw [show n - i = (n - (i + 1)) + 1 from by omega, Int.mul_add, Int.mul_one]
          have p : 0 ≤ r * (n - (i + 1)) := Int.mul_nonneg hr0 (by omega)
          rw [e]
          generalize r * (n - (i + 1)) = q at p
          rw [show min (min (h + r) m + q) m = min (h + (q + r)) m from by omega]
        · have p : 0 ≤ r * (n - i) := Int.mul_nonneg hr0 (by omega)
          rw [if_neg cm, if_neg (by omega), show min (h + r * (n - i)) m = h from by omega]
      · rw [if_neg cr, if_pos (by omega)]
    · rw [if_neg c]
      by_cases cr : r = 0
      · rw [if_pos cr]
      · rw [if_neg cr, show n - i = 0 from by omega, Int.mul_zero, show min (h + 0) m = h from by omega]

theorem ref_ticks (k : Nat) (hk : 17000 < k) (r m h n : Int) (hr0 : 0 ≤ r) (hr1 : r ≤ 1000) (h0 : 0 ≤ h) (h1 : h ≤ m) (hm : m ≤ 16000) (hn0 : 0 ≤ n) (hn1 : n ≤ 18446744073709551615) :
    joustref08_Ticks.f k r m h n = some (r, m, min (h + r * min n 16000) m) := by
  unfold joustref08_Ticks.f
  rw [ref_ticks_l n r m hr0 hr1 hn1 hm (m - h).toNat k 0 h (by omega) hn0 h0 (by omega) (by omega)]
  by_cases cr : r = 0
  · rw [if_pos cr, cr, Int.zero_mul, show min (h + 0) m = h from by omega]
  · rw [if_neg cr, Int.sub_zero]
    by_cases cn : n ≤ 16000
    · rw [show min n 16000 = n from by omega]
    · rw [show min n 16000 = 16000 from by omega]
      have a := Int.mul_le_mul_of_nonneg_right (show (1 : Int) ≤ r by omega) (show (0 : Int) ≤ n by omega)
      have b := Int.mul_le_mul_of_nonneg_right (show (1 : Int) ≤ r by omega) (show (0 : Int) ≤ 16000 by omega)
      rw [show min (h + r * n) m = m from by omega, show min (h + r * 16000) m = m from by omega]

theorem ref_left (r m h : Int) (h0 : 0 ≤ h) (h1 : h ≤ 100000) : joustref08_Left.f r m h = some (h / 16) := by
  unfold joustref08_Left.f
  rw [Int.tdiv_eq_ediv_of_nonneg h0, w64 (by omega) (by omega)]

/-- A bucket as it may be. -/
def Ok (r m h : Int) : Prop := 0 ≤ r ∧ r ≤ 1000 ∧ 0 ≤ h ∧ h ≤ m ∧ m ≤ 16000

/-- What was laid aside, here and there. -/
structure Beside (X : List S52) (Y : List S56) : Prop where
  len : X.length = Y.length
  ok : ∀ i : Nat, i < X.length → Ok (rd_T52 X i).f0 (rd_T52 X i).f1 (rd_T52 X i).f2 ∧ (rd_T56 Y i).f0 = (rd_T52 X i).f0 ∧ (rd_T56 Y i).f1 = (rd_T52 X i).f1 ∧ (rd_T56 Y i).f2 = (rd_T52 X i).f2

theorem rd52_append (X : List S52) (x : S52) (i : Nat) (h : i ≤ X.length) : rd_T52 (X ++ [x]) i = if i = X.length then x else rd_T52 X i := by
  unfold rd_T52
  by_cases c : i = X.length
  · subst c; simp
  · have : i < X.length := by omega
    rw [if_neg c]
    simp [List.getElem?_append_left this]
theorem rd56_append (X : List S56) (x : S56) (i : Nat) (h : i ≤ X.length) : rd_T56 (X ++ [x]) i = if i = X.length then x else rd_T56 X i := by
  unfold rd_T56
  by_cases c : i = X.length
  · subst c; simp
  · have : i < X.length := by omega
    rw [if_neg c]
    simp [List.getElem?_append_left this]
theorem rd52_set (X : List S52) (x : S52) (j i : Nat) (h : i < X.length) : rd_T52 (X.set j x) i = if j = i then x else rd_T52 X i := by
  unfold rd_T52
  by_cases c : j = i
  · subst c; simp [h]
  · rw [if_neg c]
    simp [List.getElem?_set_ne c]
theorem rd56_set (X : List S56) (x : S56) (j i : Nat) (h : i < X.length) : rd_T56 (X.set j x) i = if j = i then x else rd_T56 X i := by
  unfold rd_T56
  by_cases c : j = i
  · subst c; simp [h]
  · rw [if_neg c]
    simp [List.getElem?_set_ne c]

theorem Beside.push {X : List S52} {Y : List S56} (B : Beside X Y) {r m h : Int} (o : Ok r m h) : Beside (X ++ [⟨r, m, h⟩]) (Y ++ [⟨r, m, h⟩]) where
  len := by simp [B.len]
  ok := by
    intro i hi
    rw [List.length_append, List.length_singleton] at hi
    have l := B.len
    rw [rd52_append X _ i (by omega), rd56_append Y _ i (by omega), ← l]
    by_cases c : i = X.length
    · rw [if_pos c, if_pos c]
      exact ⟨o, rfl, rfl, rfl⟩
    · rw [if_neg c, if_neg c]
      exact B.ok i (by omega)

theorem Beside.put {X : List S52} {Y : List S56} (B : Beside X Y) (j : Nat) {r m h : Int} (o : Ok r m h) : Beside (X.set j ⟨r, m, h⟩) (Y.set j ⟨r, m, h⟩) where
  len := by simp [B.len]
  ok := by
    intro i hi
    rw [List.length_set] at hi
    have l := B.len
    rw [rd52_set X _ j i hi, rd56_set Y _ j i (by omega)]
    by_cases c : j = i
    · rw [if_pos c, if_pos c]
      exact ⟨o, rfl, rfl, rfl⟩
    · rw [if_neg c, if_neg c]
      exact B.ok i hi

theorem aside_ok (X : List S52) (Y : List S56) (B : Beside X Y) (hx : X.length ≤ 1048576) (d : Nat) : ∀ (k i : Nat), i + d = X.length → d + 1 < k → joustlaw08_BucketPlays.l1 k X Y i = some true := by
  induction d with
  | zero =>
    intro k i hi hk
    obtain ⟨k, rfl⟩ : ∃ j, k = j + 1 := ⟨k - 1, by omega⟩
    simp only [joustlaw08_BucketPlays.l1]
    rw [if_neg (by omega)]
  | succ d ih =>
    intro k i hi hk
    obtain ⟨k, rfl⟩ : ∃ j, k = j + 1 := ⟨k - 1, by omega⟩
    obtain ⟨⟨r0, r1, h0, hm, m1⟩, e0, e1, e2⟩ := B.ok i (by omega)
    have hi' := ih k (i + 1) (by omega) (by omega)
    have hl := B.len
    have a1 : (i : Int) < (X.length : Int) := by omega
    have a2 : (i : Int) < (Y.length : Int) := by omega
    have hw : wrap64 ((i : Int) + 1) = ((i + 1 : Nat) : Int) := by rw [w64 (by omega) (by omega)]; omega
    simp only [joustlaw08_BucketPlays.l1]
    rw [if_pos a1, if_pos (Int.natCast_nonneg i), left_ok _ _ _ h0 (Int.le_trans hm (Int.le_trans m1 (by decide)))]
    simp only [Option.bind_some]
    rw [if_pos a2, e0, e1, e2, ref_left _ _ _ h0 (Int.le_trans hm (Int.le_trans m1 (by decide)))]
    simp only [Option.bind_some, if_true]
    rw [hw]
    exact hi'

theorem script (l : List S62) (hl : ∀ x ∈ l, 0 ≤ x.f1 ∧ x.f1 ≤ 18446744073709551615) (hlen : l.length ≤ 1048576) (d : Nat) : ∀ (k i : Nat) (X : List S52) (Y : List S56) (r m h : Int), i + d = l.length → 2 * d + l.length + 20000 < k → X.length ≤ i → Beside X Y → Ok r m h →
    joustlaw08_BucketPlays.l0 k l X Y i r m h r m h = some true := by
  have hl0 : ∀ x ∈ l, 0 ≤ x.f1 := fun x hx => (hl x hx).1
  induction d with
  | zero =>
    intro k i X Y r m h hi hk hX B o
    obtain ⟨k, rfl⟩ : ∃ j, k = j + 1 := ⟨k - 1, by omega⟩
    simp only [joustlaw08_BucketPlays.l0]
    rw [if_neg (by omega)]
    exact aside_ok X Y B (by omega) X.length k 0 (by omega) (by omega)
  | succ d ih =>
    intro k i X Y r m h hi hk hX B o
    obtain ⟨k, rfl⟩ : ∃ j, k = j + 1 := ⟨k - 1, by omega⟩
    have hk' : 17000 < k := by omega
    have a1 : (i : Int) < (l.length : Int) := by omega
    have hf1 := rd62 l hl0 i (by omega) a1
    have hf2 : (rd_T62 l i).f1 ≤ 18446744073709551615 := by
      have h' : i < l.length := by omega
      have e : rd_T62 l i = l[i] := by unfold rd_T62; simp [h']
      rw [e]
      exact (hl _ (List.getElem_mem h')).2
    have go : ∀ (X' : List S52) (Y' : List S56) (r' m' h' : Int), X'.length ≤ i + 1 → Beside X' Y' → Ok r' m' h' → joustlaw08_BucketPlays.j1 k l X' Y' i r' m' h' r' m' h' = some true := by
      intro X' Y' r' m' h' hX' B' o'
      have hi' := fun k hk => ih k (i + 1) X' Y' r' m' h' (by omega) hk hX' B' o'
      obtain ⟨_, _, h0, hm, m1⟩ := o'
      obtain ⟨k, rfl⟩ : ∃ j, k = j + 1 := ⟨k - 1, by omega⟩
      have hw : wrap64 ((i : Int) + 1) = ((i + 1 : Nat) : Int) := by rw [w64 (by omega) (by omega)]; omega
      simp only [joustlaw08_BucketPlays.j1]
      rw [left_ok _ _ _ h0 (Int.le_trans hm (Int.le_trans m1 (by decide)))]
      simp only [Option.bind_some]
      rw [ref_left _ _ _ h0 (Int.le_trans hm (Int.le_trans m1 (by decide)))]
      simp only [Option.bind_some, if_true]
      rw [hw]
      exact hi' k (by clear hw; omega)
    obtain ⟨r0, r1, h0, hm, m1⟩ := o
    have xl := B.len
    simp only [joustlaw08_BucketPlays.l0]
    rw [if_pos a1, if_pos (Int.natCast_nonneg i)]
    by_cases c1 : (rd_T62 l i).f0 = 1
    · rw [if_pos c1]
      by_cases c : h < 16
      · have e : joustref08_Take.f r m h = some (r, m, h, 80) := by unfold joustref08_Take.f; rw [if_pos c]
        rw [take_no r m h c, e]
        simp only [Option.bind_some, if_true]
        exact go X Y r m h (by omega) B ⟨r0, r1, h0, hm, m1⟩
      · have e : joustref08_Take.f r m h = some (r, m, h - 16, 0) := by unfold joustref08_Take.f; rw [if_neg c, w64 (by omega) (by omega)]
        rw [take_yes r m h (by omega) (by omega), e]
        simp only [Option.bind_some, if_true]
        exact go X Y r m (h - 16) (by omega) B ⟨r0, r1, by omega, by omega, m1⟩
    · rw [if_neg c1]
      by_cases c2 : (rd_T62 l i).f0 = 2
      · rw [if_pos c2, tick_ok r m h r0 r1 h0 (by omega) (by omega) (by omega), ref_tick r m h r0 r1 h0 (by omega)]
        simp only [Option.bind_some]
        exact go X Y r m _ (by omega) B ⟨r0, r1, by omega, by omega, m1⟩
      · rw [if_neg c2]
        by_cases c3 : (rd_T62 l i).f0 = 3
        · have hb := mul_bd r (min (rd_T62 l i).f1 16000) r0 r1 (by omega) (by omega)
          rw [if_pos c3, ticks_ok r m h _ r0 r1 h0 (by omega) hf1 (by omega) (by omega), ref_ticks k hk' r m h _ r0 r1 h0 hm m1 hf1 hf2]
          simp only [Option.bind_some]
          exact go X Y r m _ (by omega) B ⟨r0, r1, by omega, by omega, m1⟩
        · rw [if_neg c3]
          by_cases c4 : (rd_T62 l i).f0 = 4
          · rw [if_pos c4, if_pos (by omega), if_pos (by omega)]
            exact go _ _ r m h (by simp; omega) (B.push ⟨r0, r1, h0, hm, m1⟩) ⟨r0, r1, h0, hm, m1⟩
          · rw [if_neg c4]
            by_cases c5 : (rd_T62 l i).f0 = 5
            · rw [if_pos c5]
              by_cases c6 : (X.length : Int) > 0
              · have hw : wrap64 ((X.length : Int) - 1) = ((X.length - 1 : Nat) : Int) := by rw [w64 (by omega) (by omega)]; omega
                obtain ⟨o', e0, e1, e2⟩ := B.ok (X.length - 1) (by clear hw; omega)
                have b1 : ((X.length - 1 : Nat) : Int) < (X.length : Int) := by clear hw; omega
                have b2 : ((X.length - 1 : Nat) : Int) < (Y.length : Int) := by clear hw; omega
                have hX1 : X.length ≤ i + 1 := by clear hw; omega
                rw [if_pos c6, hw, if_pos (Int.natCast_nonneg _), if_pos b1, if_pos b2, e0, e1, e2]
                exact go _ _ _ _ _ (by rw [List.length_set]; exact hX1) (B.put (X.length - 1) ⟨r0, r1, h0, hm, m1⟩) o'
              · rw [if_neg c6]
                exact go X Y r m h (by omega) B ⟨r0, r1, h0, hm, m1⟩
            · rw [if_neg c5]
              exact go X Y r m h (by omega) B ⟨r0, r1, h0, hm, m1⟩

theorem BucketPlays (a0 a1 : Int) (l : List S62) (hl : ∀ x ∈ l, 0 ≤ x.f1 ∧ x.f1 ≤ 18446744073709551615) (hlen : l.length ≤ 1048576) : ∃ k, joustlaw08_BucketPlays.f k a0 a1 l = some true := by
  refine ⟨4 * l.length + 30000, ?_⟩
  have hk := at_rounds (g := fun k => joustlaw08_fixed.f k) joustlaw08_fixed.mono (k := 1) (k' := 4 * l.length + 30000) (by omega) fixed_ok
  unfold joustlaw08_BucketPlays.f
  rw [hk]
  simp only [Option.bind_some, if_true]
  have e : ∀ q, joustref08_New.f a0 a1 = some q → bucket_New.f a0 a1 = some q := fun q h => h
  by_cases c : 0 ≤ a0 ∧ a0 ≤ 1000 ∧ 1 ≤ a1 ∧ a1 ≤ 1000
  · obtain ⟨x0, x1, y0, y1⟩ := c
    have en := new_ok a0 a1 x0 x1 y0 y1
    have er : joustref08_New.f a0 a1 = some (a0, 16 * a1, 16 * a1, 0) := en
    rw [en, er]
    simp only [Option.bind_some, if_true]
    exact script l hl hlen l.length (4 * l.length + 30000) 0 [] [] a0 (16 * a1) (16 * a1) (by omega) (by omega) (by simp) ⟨rfl, fun i hi => absurd hi (by simp)⟩ ⟨x0, x1, by omega, by omega, by omega⟩
  · have er : bucket_New.f a0 a1 = some (0, 0, 0, 110) := by
      unfold bucket_New.f
      by_cases q1 : a0 < 0
      · rw [if_pos q1]
      · by_cases q2 : a0 > 1000
        · rw [if_neg q1, if_pos q2]
        · by_cases q3 : a1 < 1
          · rw [if_neg q1, if_neg q2, if_pos q3]
          · rw [if_neg q1, if_neg q2, if_neg q3, if_pos (by omega)]
    have er' : joustref08_New.f a0 a1 = some (0, 0, 0, 110) := er
    rw [er, er']
    simp only [Option.bind_some, if_true]
    rw [if_neg (by omega)]

end Go.Proofs.Ytidjnpfpbbffjaa.Pure
