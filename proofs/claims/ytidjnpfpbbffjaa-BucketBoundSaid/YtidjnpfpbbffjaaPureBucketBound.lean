/- Proved: the plain law of BucketBound, on numbers and lists. -/
import Derived.Test.YtidjnpfpbbffjaaPBucketBoundx3
import Derived.KernelRfl
import Derived.OpenShut
namespace Go.Proofs.Ytidjnpfpbbffjaa.Pure
open Go.RowKit Go.Proofs.Ytidjnpfpbbffjaa.PBucketBound Go.Proofs.YtidjnpfpbbffjaaW.PrintWords Go.Proofs.YtidjnpfpbbffjaaW.PrintLast

theorem wu64 {x : Int} (h : 0 ≤ x) (h' : x ≤ 18446744073709551615) : IntKind.u64.wrap x = x := by
  show x % 18446744073709551616 = x
  omega

theorem w64 {x : Int} (h : -9223372036854775808 ≤ x) (h' : x ≤ 9223372036854775807) : wrap64 x = x := by
  unfold wrap64
  omega

theorem fixed_ok : joustlaw08_fixed.f 1 = some true := by kernel_rfl

theorem left_ok (r m h : Int) (h0 : 0 ≤ h) (h1 : h ≤ 100000) : bucket_Bucket_Left.f r m h = some (h / 16, r, m, h) := by
  unfold bucket_Bucket_Left.f
  have e : Int.tdiv h 16 = h / 16 := Int.tdiv_eq_ediv_of_nonneg h0
  rw [e, w64 (by omega) (by omega)]

theorem take_no (r m h : Int) (h0 : h < 16) : bucket_Bucket_Take.f r m h = some (80, r, m, h) := by
  unfold bucket_Bucket_Take.f
  rw [if_pos h0]

theorem take_yes (r m h : Int) (h0 : 16 ≤ h) (h1 : h ≤ 100000) : bucket_Bucket_Take.f r m h = some (0, r, m, h - 16) := by
  unfold bucket_Bucket_Take.f
  rw [if_neg (by omega), w64 (by omega) (by omega)]

theorem mul_bd (r n : Int) (hr0 : 0 ≤ r) (hr1 : r ≤ 1000) (hn0 : 0 ≤ n) (hn1 : n ≤ 16000) : 0 ≤ r * n ∧ r * n ≤ 16000000 := by
  constructor
  · exact Int.mul_nonneg hr0 hn0
  · have := Int.mul_le_mul hr1 hn1 hn0 (by omega : (0 : Int) ≤ 1000)
    omega

theorem ticks_ok (r m h n : Int) (hr0 : 0 ≤ r) (hr1 : r ≤ 1000) (h0 : 0 ≤ h) (h1 : h ≤ 100000) (hn0 : 0 ≤ n) (_hm : 0 ≤ m) (_hm' : m ≤ 100000) :
    bucket_Bucket_Ticks.f r m h n = some (r, m, min (h + r * min n 16000) m) := by
  have hb := mul_bd r (min n 16000) hr0 hr1 (by omega) (by omega)
  unfold bucket_Bucket_Ticks.f
  have e1 : mn n 16000 = min n 16000 := by unfold mn; omega
  rw [e1, w64 (x := min n 16000) (by omega) (by omega), w64 (x := r * min n 16000) (by omega) (by omega), w64 (x := h + r * min n 16000) (by omega) (by omega)]
  have e2 : mn (h + r * min n 16000) m = min (h + r * min n 16000) m := by unfold mn; omega
  rw [e2]

theorem tick_ok (r m h : Int) (hr0 : 0 ≤ r) (hr1 : r ≤ 1000) (h0 : 0 ≤ h) (h1 : h ≤ 100000) (hm : 0 ≤ m) (hm' : m ≤ 100000) :
    bucket_Bucket_Tick.f r m h = some (r, m, min (h + r) m) := by
  unfold bucket_Bucket_Tick.f
  rw [ticks_ok r m h 1 hr0 hr1 h0 h1 (by omega) hm hm']
  have e : min (1 : Int) 16000 = 1 := by omega
  simp only [Option.bind_some, e, Int.mul_one]

theorem brought_ok (n lo hi : Int) (h0 : 0 ≤ lo) (h1 : lo ≤ hi) (h2 : hi ≤ 1000) : ∃ k, joustlaw08_brought.f n lo hi = some k ∧ lo ≤ k ∧ k ≤ hi := by
  unfold joustlaw08_brought.f
  have e1 : wrap64 (wrap64 (hi - lo) + 1) = hi - lo + 1 := by rw [w64 (x := hi - lo) (by omega) (by omega), w64 (by omega) (by omega)]
  rw [e1, if_neg (by omega)]
  have hlt : Int.tmod n (hi - lo + 1) < hi - lo + 1 := Int.tmod_lt_of_pos n (by omega)
  have hgt : -(hi - lo + 1) < Int.tmod n (hi - lo + 1) := by
    have := Int.lt_tmod_of_pos n (show 0 < hi - lo + 1 by omega)
    omega
  generalize Int.tmod n (hi - lo + 1) = t at hlt hgt ⊢
  by_cases ht : t < 0
  · rw [if_pos ht]
    refine ⟨_, rfl, ?_⟩
    rw [w64 (x := t + hi) (by omega) (by omega), w64 (x := t + hi - lo) (by omega) (by omega), w64 (x := t + hi - lo + 1) (by omega) (by omega), w64 (by omega) (by omega)]
    omega
  · rw [if_neg ht]
    refine ⟨_, rfl, ?_⟩
    rw [w64 (by omega) (by omega)]
    omega

theorem new_ok (r m : Int) (hr0 : 0 ≤ r) (hr1 : r ≤ 1000) (hm0 : 1 ≤ m) (hm1 : m ≤ 1000) : bucket_New.f r m = some (r, 16 * m, 16 * m, 0) := by
  unfold bucket_New.f
  rw [if_neg (by omega), if_neg (by omega), if_neg (by omega), if_neg (by omega), w64 (by omega) (by omega)]

theorem full_ok (a0 a1 : Int) : ∃ r m, 0 ≤ r ∧ r ≤ 1000 ∧ 1 ≤ m ∧ m ≤ 1000 ∧ joustlaw08_full.f 1 a0 a1 = some (r, 16 * m, 16 * m, r, m, true) := by
  obtain ⟨r, er, r0, r1⟩ := brought_ok a0 0 1000 (by omega) (by omega) (by omega)
  obtain ⟨m, em, m0, m1⟩ := brought_ok a1 1 1000 (by omega) (by omega) (by omega)
  refine ⟨r, m, r0, r1, m0, m1, ?_⟩
  unfold joustlaw08_full.f
  rw [er, em]
  simp only [Option.bind_some]
  rw [new_ok r m r0 r1 m0 m1]
  simp only [Option.bind_some, if_true]
  rw [left_ok r (16 * m) (16 * m) (by omega) (by omega)]
  simp only [Option.bind_some]
  rw [if_pos (by omega), fixed_ok]
  rfl

theorem rd62 (l : List S62) (h : ∀ x ∈ l, 0 ≤ x.f1) (i : Int) (h0 : 0 ≤ i) (h1 : i < (l.length : Int)) : 0 ≤ (rd_T62 l i).f1 := by
  have hi : i.toNat < l.length := by omega
  have e : rd_T62 l i = l[i.toNat] := by unfold rd_T62; simp [hi]
  rw [e]
  exact h _ (List.getElem_mem hi)

theorem sum_ge (l : List Int) (h : ∀ x ∈ l, 0 ≤ x) : 0 ≤ l.sum := by
  induction l with
  | nil => simp
  | cons a l ih =>
    have h1 := h a (by simp)
    have h2 := ih (fun x hx => h x (by simp [hx]))
    rw [List.sum_cons]
    omega

theorem sum_le (c : Int) (l : List Int) (h : ∀ x ∈ l, x ≤ c) : l.sum ≤ c * l.length := by
  induction l with
  | nil => simp
  | cons a l ih =>
    have h1 := h a (by simp)
    have h2 := ih (fun x hx => h x (by simp [hx]))
    rw [List.sum_cons, List.length_cons]
    have : c * ((l.length + 1 : Nat) : Int) = c * l.length + c := by rw [Int.natCast_add, Int.mul_add]; simp
    omega

/-- What holds of what was taken (T) and what came (K), from any place on; h: what there is. -/
structure Inv (r m h : Int) (T K : List Int) : Prop where
  len : T.length = K.length
  t0 : ∀ x ∈ T, 0 ≤ x
  t1 : ∀ x ∈ T, x ≤ 1
  k0 : ∀ x ∈ K, 0 ≤ x
  k1 : ∀ x ∈ K, x ≤ 65536
  law : ∀ s, s ≤ T.length → h + 16 * (T.drop s).sum ≤ 16 * m + r * (K.drop s).sum

theorem Inv.step {r m h : Int} {T K : List Int} (I : Inv r m h T K) {h' t k : Int} (ht0 : 0 ≤ t) (ht1 : t ≤ 1) (hk0 : 0 ≤ k) (hk1 : k ≤ 65536) (hh : h' + 16 * t ≤ h + r * k) (hm : h' ≤ 16 * m) : Inv r m h' (T ++ [t]) (K ++ [k]) where
  len := by simp [I.len]
  t0 := by
    intro x hx
    rcases List.mem_append.1 hx with hx | hx
    · exact I.t0 x hx
    · rw [List.mem_singleton.1 hx]; exact ht0
  t1 := by
    intro x hx
    rcases List.mem_append.1 hx with hx | hx
    · exact I.t1 x hx
    · rw [List.mem_singleton.1 hx]; exact ht1
  k0 := by
    intro x hx
    rcases List.mem_append.1 hx with hx | hx
    · exact I.k0 x hx
    · rw [List.mem_singleton.1 hx]; exact hk0
  k1 := by
    intro x hx
    rcases List.mem_append.1 hx with hx | hx
    · exact I.k1 x hx
    · rw [List.mem_singleton.1 hx]; exact hk1
  law := by
    intro s hs
    rw [List.length_append, List.length_singleton] at hs
    by_cases c : s ≤ T.length
    · have := I.law s c
      rw [List.drop_append_of_le_length c, List.drop_append_of_le_length (by rw [← I.len]; exact c), List.sum_append, List.sum_append]
      simp only [List.sum_cons, List.sum_nil, Int.add_zero]
      rw [Int.mul_add, Int.mul_add]
      omega
    · have e : s = (T ++ [t]).length := by rw [List.length_append, List.length_singleton]; omega
      have e2 : s = (K ++ [k]).length := by rw [List.length_append, List.length_singleton, ← I.len]; omega
      have d1 : (T ++ [t]).drop s = [] := List.drop_eq_nil_of_le (by omega)
      have d2 : (K ++ [k]).drop s = [] := List.drop_eq_nil_of_le (by omega)
      rw [d1, d2]
      simp only [List.sum_nil, Int.mul_zero]
      omega

theorem rd_drop (l : List Int) (i : Nat) (h : i < l.length) : (l.drop i).sum = rd l (i : Int) + (l.drop (i + 1)).sum := by
  have e : rd l (i : Int) = l[i] := by unfold rd; simp [h]
  rw [List.drop_eq_getElem_cons h, List.sum_cons, e]

theorem look_back (l : List S62) (r m sum x : Int) (T K : List Int) (h : Int) (I : Inv r m h T K) (hT : T.length ≤ 200) (h0 : 0 ≤ h) (r0 : 0 ≤ r) (r1 : r ≤ 1000) (m0 : 1 ≤ m) (m1 : m ≤ 1000) (K0 : Nat)
    (next : ∀ k, K0 ≤ k → joustlaw08_BucketBound.l0 k l r m T K sum (wrap64 (x + 1)) r (16 * m) h = some true) (d : Nat) :
    ∀ (k : Nat) (y : Int), y + 1 = d → d ≤ T.length → K0 + d + 1 ≤ k →
      joustlaw08_BucketBound.l1 k l r m T K sum x (T.drop d).sum (K.drop d).sum y r (16 * m) h = some true := by
  induction d with
  | zero =>
    intro k y hy _ hk
    obtain ⟨k, rfl⟩ : ∃ j, k = j + 1 := ⟨k - 1, by omega⟩
    simp only [joustlaw08_BucketBound.l1]
    rw [if_neg (by omega)]
    exact next k (by omega)
  | succ d ih =>
    intro k y hy hd hk
    obtain ⟨k, rfl⟩ : ∃ j, k = j + 1 := ⟨k - 1, by omega⟩
    have ey : y = (d : Int) := by omega
    subst ey
    have hi := ih k ((d : Int) - 1) (by omega) (by omega) (by omega)
    have s1 := rd_drop T d (by omega)
    have s2 := rd_drop K d (by rw [← I.len]; omega)
    have b0 := sum_ge (T.drop d) (fun x hx => I.t0 x (List.mem_of_mem_drop hx))
    have b1 := sum_le 1 (T.drop d) (fun x hx => I.t1 x (List.mem_of_mem_drop hx))
    have c0 := sum_ge (K.drop d) (fun x hx => I.k0 x (List.mem_of_mem_drop hx))
    have c1 := sum_le 65536 (K.drop d) (fun x hx => I.k1 x (List.mem_of_mem_drop hx))
    have lw := I.law d (by omega)
    have hl1 : (T.drop d).length ≤ 200 := by rw [List.length_drop]; omega
    have hl2 : (K.drop d).length ≤ 200 := by rw [List.length_drop, ← I.len]; omega
    have e1 : (T.drop (d + 1)).sum + rd T (d : Int) = (T.drop d).sum := by omega
    have e2 : (K.drop (d + 1)).sum + rd K (d : Int) = (K.drop d).sum := by omega
    have rk0 : 0 ≤ r * (K.drop d).sum := Int.mul_nonneg r0 c0
    have rk1 : r * (K.drop d).sum ≤ 1000 * 13107200 := Int.mul_le_mul r1 (by omega) c0 (by omega)
    simp only [joustlaw08_BucketBound.l1]
    rw [e1, e2, if_pos (by omega), if_pos (by omega), if_pos (by omega), if_pos (by rw [← I.len]; omega), w64 (x := (T.drop d).sum) (by omega) (by omega), w64 (x := (K.drop d).sum) (by omega) (by omega), w64 (x := 16 * m) (by omega) (by omega),
      w64 (x := r * (K.drop d).sum) (by omega) (by omega), w64 (x := 16 * m + r * (K.drop d).sum) (by omega) (by omega), Int.tdiv_eq_ediv_of_nonneg (by omega), w64 (x := (16 * m + r * (K.drop d).sum) / 16) (by omega) (by omega), if_neg (by omega), w64 (x := (d : Int) - 1) (by omega) (by omega)]
    exact hi

theorem script (l : List S62) (hl : ∀ x ∈ l, 0 ≤ x.f1) (d : Nat) : ∀ (k : Nat) (r m h : Int) (T K : List Int), T.length + d = 200 → T.length ≤ l.length → 300 * d + 10 < k → 0 ≤ r → r ≤ 1000 → 1 ≤ m → m ≤ 1000 → 0 ≤ h → h ≤ 16 * m → Inv r m h T K →
    joustlaw08_BucketBound.l0 k l r m T K T.sum (T.length : Int) r (16 * m) h = some true := by
  have fin : ∀ (k : Nat) (r m h : Int) (T K : List Int), 1 < k → T.length ≤ l.length → Inv r m h T K → joustlaw08_BucketBound.j1 k l r m T K T.sum (T.length : Int) false r (16 * m) h = some true := by
    intro k r m h T K hk hT I
    obtain ⟨k, rfl⟩ : ∃ j, k = j + 1 := ⟨k - 1, by omega⟩
    have b1 := sum_le 1 T I.t1
    simp only [joustlaw08_BucketBound.j1]
    rw [if_neg (by simp)]
    simp
    omega
  induction d with
  | zero =>
    intro k r m h T K hT hTl hk r0 r1 m0 m1 h0 h1 I
    obtain ⟨k, rfl⟩ : ∃ j, k = j + 1 := ⟨k - 1, by omega⟩
    have hd : decide ((T.length : Int) < 200) = false := by simp; omega
    have hf := fin k r m h T K (by omega) hTl I
    simp only [joustlaw08_BucketBound.l0]
    rw [hd]
    by_cases hlt : (T.length : Int) < (l.length : Int)
    · rw [if_pos hlt]
      exact hf
    · rw [if_neg hlt]
      exact hf
  | succ d ih =>
    intro k r m h T K hT hTl hk r0 r1 m0 m1 h0 h1 I
    obtain ⟨k, rfl⟩ : ∃ j, k = j + 1 := ⟨k - 1, by omega⟩
    have hd : decide ((T.length : Int) < 200) = true := by simp; omega
    by_cases hlt : (T.length : Int) < (l.length : Int)
    · have hf1 := rd62 l hl _ (by omega) hlt
      obtain ⟨k, rfl⟩ : ∃ j, k = j + 1 := ⟨k - 1, by omega⟩
      obtain ⟨k, rfl⟩ : ∃ j, k = j + 1 := ⟨k - 1, by omega⟩
      have hs0 := sum_ge T I.t0
      have hs1 := sum_le 1 T I.t1
      have go : ∀ (h' t c : Int), 0 ≤ h' → h' ≤ 16 * m → 0 ≤ t → t ≤ 1 → 0 ≤ c → c ≤ 65536 → h' + 16 * t ≤ h + r * c → joustlaw08_BucketBound.j2 (k + 1) l r m T K T.sum (T.length : Int) t c r (16 * m) h' = some true := by
        intro h' t c h0' h1' t0 t1 c0 c1 hstep
        have I' := I.step t0 t1 c0 c1 hstep h1'
        have hl' : (T ++ [t]).length = T.length + 1 := by simp
        have hn := fun k hk => ih k r m h' (T ++ [t]) (K ++ [c]) (by omega) (by omega) hk r0 r1 m0 m1 h0' h1' I'
        have es : (T ++ [t]).sum = T.sum + t := by simp
        rw [es, hl'] at hn
        have lb := look_back l r m (T.sum + t) (T.length : Int) (T ++ [t]) (K ++ [c]) h' I' (by omega) h0' r0 r1 m0 m1 (300 * d + 11)
          (fun k hk => by
            rw [w64 (by omega) (by omega)]
            exact hn k (by omega)) (T.length + 1) k (T.length : Int) (by omega) (by omega) (by omega)
        have d1 : (T ++ [t]).drop (T.length + 1) = [] := List.drop_eq_nil_of_le (by omega)
        have d2 : (K ++ [c]).drop (T.length + 1) = [] := List.drop_eq_nil_of_le (by simp; have := I.len; omega)
        rw [d1, d2] at lb
        simp only [List.sum_nil] at lb
        simp only [joustlaw08_BucketBound.j2]
        rw [if_pos (by omega), if_pos (by have := I.len; omega), w64 (by omega) (by omega)]
        exact lb
      simp only [joustlaw08_BucketBound.l0]
      rw [if_pos hlt, hd]
      simp only [joustlaw08_BucketBound.j1]
      rw [if_pos trivial, if_pos (by omega), if_pos hlt]
      by_cases c1 : (rd_T62 l T.length).f0 = 1
      · rw [if_pos c1]
        by_cases c : h < 16
        · rw [take_no r (16 * m) h c]
          simp only [Option.bind_some]
          rw [if_neg (by omega)]
          exact go h 0 0 h0 h1 (by omega) (by omega) (by omega) (by omega) (by omega)
        · rw [take_yes r (16 * m) h (by omega) (by omega)]
          simp only [Option.bind_some, if_true]
          exact go (h - 16) 1 0 (by omega) (by omega) (by omega) (by omega) (by omega) (by omega) (by omega)
      · rw [if_neg c1]
        by_cases c2 : (rd_T62 l T.length).f0 = 2
        · rw [if_pos c2, tick_ok r (16 * m) h r0 r1 h0 (by omega) (by omega) (by omega)]
          simp only [Option.bind_some]
          exact go _ 0 1 (by omega) (by omega) (by omega) (by omega) (by omega) (by omega) (by omega)
        · rw [if_neg c2]
          by_cases c3 : (rd_T62 l T.length).f0 = 3
          · rw [if_pos c3]
            by_cases c4 : (rd_T62 l T.length).f1 > 65536
            · rw [if_pos c4]
            · generalize (rd_T62 l T.length).f1 = n at hf1 c4 ⊢
              have hb := mul_bd r (min n 16000) r0 r1 (by omega) (by omega)
              have hle : r * min n 16000 ≤ r * n := Int.mul_le_mul_of_nonneg_left (by omega) r0
              rw [if_neg c4, ticks_ok r (16 * m) h n r0 r1 h0 (by omega) hf1 (by omega) (by omega), w64 (x := n) (by omega) (by omega)]
              simp only [Option.bind_some]
              exact go _ 0 n (by omega) (by omega) (by omega) (by omega) hf1 (by omega) (by omega)
          · rw [if_neg c3]
            exact go h 0 0 h0 h1 (by omega) (by omega) (by omega) (by omega) (by omega)
    · have hf := fin k r m h T K (by omega) hTl I
      simp only [joustlaw08_BucketBound.l0]
      rw [if_neg hlt]
      exact hf

theorem BucketBound (a0 a1 : Int) (l : List S62) (hl : ∀ x ∈ l, 0 ≤ x.f1) : ∃ k, joustlaw08_BucketBound.f k a0 a1 l = some true := by
  obtain ⟨r, m, r0, r1, m0, m1, hf⟩ := full_ok a0 a1
  refine ⟨100000, ?_⟩
  have hk := at_rounds (g := fun k => joustlaw08_full.f k a0 a1) (joustlaw08_full.mono a0 a1) (k := 1) (k' := 100000) (by omega) hf
  unfold joustlaw08_BucketBound.f
  rw [hk]
  simp only [Option.bind_some, if_true]
  exact script l hl 200 100000 r m (16 * m) [] [] (by simp) (by simp) (by omega) r0 r1 m0 m1 (by omega) (by omega)
    ⟨rfl, by simp, by simp, by simp, by simp, fun s hs => by simp⟩

end Go.Proofs.Ytidjnpfpbbffjaa.Pure
