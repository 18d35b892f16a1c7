/- Proved: the walk of SmoothMeans: true for every list. -/
import Derived.Test.YtjffkidfoapbjaaRefMean
import Derived.Test.YtjffkidfoapbjaaOne
import Derived.Test.YtjffkidfoapbjaaAlive
namespace Go.Proofs.Ytjffkidfoapbjaa.Fl
open Go.RowKit Go.Proofs.YtjffkidfoapbjaaW.PrintWords Go.Proofs.YtjffkidfoapbjaaW.PrintLast Go.Proofs.YtjffkidfoapbjaaW.PrintMore
set_option linter.unusedVariables false
set_option linter.unusedSimpArgs false
attribute [local go_sem] run_store_float

theorem lit2 (w : World) (a b : Nat) : ReadsOf (fun n : Nat => Value.float .f32 n) 0 (w.alloc (.cells #[.float .f32 a, .float .f32 b] 22)) (some ⟨w.heap.size, 0, none⟩) 2 [a, b] := by
  obtain ⟨A, c, e, h⟩ := own_reads_of (d := 0) (own_lit_of (enc := fun n : Nat => Value.float .f32 n) w 0 22 [a, b] (Nat.zero_le _) (by simp))
  injection e with e1 e2 e3
  subst e1
  exact h
theorem reads_fl {w : World} {A : Option Addr} {n : Nat} {l : List Nat} (h : ReadsOf (fun n : Nat => Value.float .f32 n) 0 w A n l) : FlRow w A l := fun j hj => by
  obtain ⟨ad, e, hc⟩ := h.2.2 (by have := h.1; omega)
  exact ⟨ad, e, hc j (by have := h.1; omega)⟩
theorem own_drawn {w w' : World} {base n : Nat} {e : TypeId} {size : Nat} {v : Value} {xs : List Value} (h : w.ownsRow base e size v n xs) (d : Drawn0 w w') : w'.ownsRow base e size v n xs := by
  obtain ⟨⟨k, rfl⟩⟩ := d
  exact h
theorem drawn_drew {w w1 : World} (h : Drawn0 w w1) : Drawn0 w w1.drew := h.step 1
theorem mean_at (A : Option Addr) (cap : Nat) (l : List Nat) (n : Nat) (w : World) (hn : l.length = n) (hr : FlRow w A l) (hlen : n ≤ 9223372036854775807) : Calls Try.prog 15 #[.slice A n cap] w fun e w' => ∃ r, Fe r (meanF l) ∧ e = .returned (.float .f32 r) ∧ Drawn0 w w' := by
  subst hn
  exact mean_calls A cap l w hr hlen
theorem refmean_at (A : Option Addr) (cap : Nat) (l : List Nat) (n : Nat) (w : World) (hn : l.length = n) (hr : FlRow w A l) (hlen : n ≤ 9223372036854775807) : Calls Try.prog 16 #[.slice A n cap] w fun e w' => ∃ r, Fe r (meanF l) ∧ e = .returned (.float .f32 r) ∧ Drawn0 w w' := by
  subst hn
  exact refmean_calls A cap l w hr hlen
theorem mean_none {r : Nat} (h : Fe r (meanF [])) : r = 0 := by
  have e : meanF [] = 0 := by simp [meanF]
  rw [e] at h
  exact h.eq (by kernel_rfl)
/-- The list in its own memory, with two marks behind it. -/
theorem open_own {W : World} {base : Nat} {v : Value} {l : List Nat} {a b : Nat} (h : W.ownsRow base 22 1 v (l ++ [a, b]).length (encs (fun n : Nat => Value.float .f32 n) (l ++ [a, b]))) :
    ∃ g c, v = .slice (some ⟨g, 0, none⟩) (l.length + 2) c ∧ l.length + 2 ≤ c ∧ W.cell? ⟨g, l.length, none⟩ = some (.float .f32 a) ∧ W.cell? ⟨g, l.length + 1, none⟩ = some (.float .f32 b) ∧ W.ownsRow base 22 1 (.slice (some ⟨g, 0, none⟩) (l.length + 2) c) (l.length + 2) (encs (fun n : Nat => Value.float .f32 n) (l ++ [a, b])) ∧ base ≤ g := by
  have hn : (l ++ [a, b]).length = l.length + 2 := by simp
  rw [hn] at h
  obtain ⟨g, c, rfl, hb, _⟩ := h.form (by omega)
  have h1 := (own_at_of (d := 0) h (l.length : Int) (by omega) (by omega)).1
  have h2 := (own_at_of (d := 0) h ((l.length + 1 : Nat) : Int) (by omega) (by omega)).1
  simp only [Int.toNat_natCast, rdOf] at h1 h2
  refine ⟨g, c, rfl, own_le h, ?_, ?_, h, hb⟩
  · simpa using h1
  · simpa using h2
theorem own_fl {W : World} {base g n c : Nat} {l r : List Nat} (h : W.ownsRow base 22 1 (.slice (some ⟨g, 0, none⟩) n c) n (encs (fun n : Nat => Value.float .f32 n) (l ++ r))) : FlRow W (some ⟨g, 0, none⟩) l := fun j hj => by
  have hl : (l ++ r).length = n := by have := h.1; rw [encs_length] at this; omega
  have h1 := (own_at_of (d := 0) h (j : Int) (by omega) (by rw [List.length_append] at hl; omega)).1
  simp only [Int.toNat_natCast, rdOf] at h1
  refine ⟨_, rfl, ?_⟩
  rw [add_plain]
  simpa [List.getD_eq_getElem?_getD, List.getElem?_append_left hj] using h1
theorem own_front {W : World} {base g n c : Nat} {xs : List Nat} (h : W.ownsRow base 22 1 (.slice (some ⟨g, 0, none⟩) (n + 2) c) (n + 2) (encs (fun n : Nat => Value.float .f32 n) xs)) : ∃ l : List Nat, l.length = n ∧ FlRow W (some ⟨g, 0, none⟩) l := by
  have hl : xs.length = n + 2 := by have := h.1; rw [encs_length] at this; omega
  rw [← List.take_append_drop n xs] at h
  exact ⟨xs.take n, by rw [List.length_take]; omega, own_fl h⟩

set_option maxHeartbeats 8000000 in
set_option maxRecDepth 100000 in
theorem means.calls (A : Option Addr) (cap : Nat) (l : List Nat) (hl : l.length * 4 ≤ 140737488351232) (w : World) (HR0 : ReadsOf (fun n : Nat => Value.float .f32 n) 0 w A l.length l) : Calls Try.prog 4 #[.slice A l.length cap] w fun e w' => e = .returned (.bool true) ∧ Below w.heap.size w w' := by
  have hu22 := Try.underlying22
  have hu30 := Try.underlying30
  have hu3 := Try.underlying3
  have HR := HR0
  have h77 : fcmp .neq 1117388800 1117388800 = false := by kernel_rfl
  have h78 : fcmp .neq 1117519872 1117519872 = false := by kernel_rfl
  go_enter Try.func4, Try.ntmps4
  go_wp2_with (first
      | ((try (refine gate_guard (by rfl) ?_; dsimp only)); refine wpList_fl _ rfl _ _ _ _ _ rfl (by decide) _ _ _ _ rfl rfl (by first | assumption | exact Fe.refl _) (by first | assumption | exact Fe.refl _) ?_; intro z nd hz)
      | ((try (refine gate_guard (by rfl) ?_; dsimp only)); refine wpList_flc _ rfl _ _ _ _ _ rfl (by decide) _ _ _ _ rfl rfl (by first | assumption | exact Fe.refl _) (by first | assumption | exact Fe.refl _) ?_)
      | (go_at_call 10; refine (alive_calls _).mono ?_; rintro e w1 ⟨rfl, hb⟩; have hB := hb; have HR := HR.below hb; clear hb)
      | (at_builtin; refine print_append_row_of (w0 := w) (fun n : Nat => Value.float .f32 n) 0 w.heap.size rfl (.tmp 8) _ 30 22 (.float .f32 0) 4 rfl Try.underlying30 (by kernel_rfl) rfl (by decide) (fun _ => rfl) _ [] l A l.length cap rfl rfl (own_nil _ _ _ _) HR hB hB.size (by simp only [List.length_nil]; omega) ?_; intro v2 w2 hown hB hg2 hat2; have HR := HR0.below hB; clear hg2 hat2)
      | (at_builtin; refine print_append_row_of (w0 := w) (fun n : Nat => Value.float .f32 n) 0 w.heap.size rfl (.tmp 11) _ 30 22 (.float .f32 0) 4 rfl Try.underlying30 (by kernel_rfl) rfl (by decide) (fun _ => rfl) _ l [1117388800, 1117519872] (some ⟨w2.heap.size, 0, none⟩) 2 2 rfl rfl (hown.alloc _) (lit2 w2 _ _) (hB.alloc hB.size _) (by simp; exact Nat.le_trans hB.size (Nat.le_succ _)) (by omega) ?_; intro v3 w3 hown hB hg3 hat3; clear hg3 hat3; have HR := HR0.below hB; obtain ⟨g3, c3, rfl, hle, hc1, hc2, hown, hge⟩ := open_own hown; have hF := reads_fl HR; have hF3 := own_fl hown)
      | ((with_reducible refine gate_callee (f := 15) rfl ?_); refine goesL_ _ rfl rfl Try.func15 (by kernel_rfl) rfl _ rfl (by simp only [List.map_toArray, List.map_cons, List.map_nil]; rfl) ?_; refine (mean_calls (some ⟨g3, 0, none⟩) c3 l _ hF3 (by omega)).mono ?_; rintro e w4 ⟨r4, hr4, rfl, hd4⟩; refine ⟨_, rfl, ?_⟩; have hF := hF.drawn hd4; have hB := dbelow hd4 hB; have hc1 := dcell hd4 hc1; have hc2 := dcell hd4 hc2; have hown := own_drawn hown hd4)
      | ((with_reducible refine gate_callee (f := 16) rfl ?_); refine goesL_ _ rfl rfl Try.func16 (by kernel_rfl) rfl _ rfl (by simp only [List.map_toArray, List.map_cons, List.map_nil]; rfl) ?_; refine (refmean_calls A cap l _ hF (by omega)).mono ?_; rintro e w5 ⟨r5, hr5, rfl, hd5⟩; refine ⟨_, rfl, ?_⟩; have hF := hF.drawn hd5; have hB := dbelow hd5 hB; have hc1 := dcell hd5 hc1; have hc2 := dcell hd5 hc2; have hown := own_drawn hown hd5)
      | ((with_reducible refine gate_callee (f := 14) rfl ?_); refine goesL_ _ rfl rfl Try.func14 (by kernel_rfl) rfl _ rfl (by simp only [List.map_toArray, List.map_cons, List.map_nil]; rfl) ?_; refine (alike_calls r4 r5 (hr4.trans hr5.symm) _).mono ?_; rintro e w6 ⟨rfl, hd6⟩; refine ⟨_, rfl, ?_⟩; have hF := hF.drawn hd6; have hB := dbelow hd6 hB; have hc1 := dcell hd6 hc1; have hc2 := dcell hd6 hc2; have hown := own_drawn hown hd6))
  go_loopw [4] (fun i wr => ∃ k : Nat, k ≤ l.length ∧ i = .int .i64 k ∧ Aside0 (Drawn0 w6 wr)) (fun i _ => l.length - (intOf i).toNat)
  case atStart => exact ⟨0, Nat.zero_le _, rfl, ⟨Drawn0.refl _⟩⟩
  case round =>
    obtain ⟨k, hk, rfl, HD⟩ := hrel
    by_cases hlt : k < l.length
    · have hD := HD.out
      have hF1 := hF.drawn hD
      obtain ⟨ad, eA, hx⟩ := hF1 k hlt
      subst eA
      obtain ⟨ad3, eA3, hm⟩ := own_fl (own_drawn hown hD) k hlt
      injection eA3 with eA3
      subst eA3
      rw [add_plain] at hm
      have hk2 : (k : Int) < (l.length : Int) := Int.ofNat_lt.mpr hlt
      have hk3 : (k : Int) < ((l.length : Int) + 2) := by omega
      have hk4 : (k : Int) < ((l.length + 2 : Nat) : Int) := by omega
      have hk0 : (0 : Int) ≤ k := Int.natCast_nonneg k
      clear HD
      go_wp2_with fail
      refine start_ (n := 10) (S := fun w' => w'.cell? ⟨g3, k, none⟩ = some (.float .f32 (l.getD k 0)) ∧ w'.cell? (ad.add k) = some (.float .f32 (l.getD k 0))) (ds := []) #[false, false, false, false, false, false, false, false, false, false] (by kernel_rfl) rfl rfl ⟨hm, hx⟩ (fun hHeld => ?_)
      refine pure_ (i := 0) (N := some 46) (v := ?_) (a' := ?_) #[true, false, false, false, false, false, false, false, false, false] rfl rfl (by kernel_rfl) (fun _ _ _ h => h) (Or.inl ⟨by rfl, ?_⟩) ?_ ?_
      rotate_left
      · intro w'
        go_simp
        with_reducible rfl
      rotate_left
      · simp only [Act.put, List.setIfInBounds_toArray, List.set_cons_zero, List.set_cons_succ, i64_w, i32_w]
        rfl
      refine pure_ (i := 1) (N := some 47) (v := ?_) (a' := ?_) #[true, true, false, false, false, false, false, false, false, false] rfl rfl (by kernel_rfl) (fun _ _ _ h => h) (Or.inl ⟨by rfl, ?_⟩) ?_ ?_
      rotate_left
      · intro w'
        go_simp
        with_reducible rfl
      rotate_left
      · simp only [Act.put, List.setIfInBounds_toArray, List.set_cons_zero, List.set_cons_succ, i64_w, i32_w]
        rfl
      refine pure_ (i := 2) (N := some 48) (v := ?_) (a' := ?_) #[true, true, true, false, false, false, false, false, false, false] rfl rfl (by kernel_rfl) (fun _ _ _ h => h) (Or.inl ⟨by rfl, ?_⟩) ?_ ?_
      rotate_left
      · intro w'
        go_simp
        with_reducible rfl
      rotate_left
      · simp only [Act.put, List.setIfInBounds_toArray, List.set_cons_zero, List.set_cons_succ, i64_w, i32_w]
        rfl
      refine pure_ (i := 4) (N := some 50) (v := ?_) (a' := ?_) #[true, true, true, false, true, false, false, false, false, false] rfl rfl (by kernel_rfl) (fun _ _ _ h => h) (Or.inl ⟨by rfl, ?_⟩) ?_ ?_
      rotate_left
      · intro w'
        go_simp
        with_reducible rfl
      rotate_left
      · simp only [Act.put, List.setIfInBounds_toArray, List.set_cons_zero, List.set_cons_succ, i64_w, i32_w]
        rfl
      refine pure_ (i := 5) (N := some 51) (v := ?_) (a' := ?_) #[true, true, true, false, true, true, false, false, false, false] rfl rfl (by kernel_rfl) (fun _ _ _ h => h) (Or.inl ⟨by rfl, ?_⟩) ?_ ?_
      rotate_left
      · intro w'
        go_simp
        with_reducible rfl
      rotate_left
      · simp only [Act.put, List.setIfInBounds_toArray, List.set_cons_zero, List.set_cons_succ, i64_w, i32_w]
        rfl
      refine pure_ (i := 6) (N := some 52) (v := ?_) (a' := ?_) #[true, true, true, false, true, true, true, false, false, false] rfl rfl (by kernel_rfl) (fun _ _ _ h => h) (Or.inl ⟨by rfl, ?_⟩) ?_ ?_
      rotate_left
      · intro w'
        go_simp
        with_reducible rfl
      rotate_left
      · simp only [Act.put, List.setIfInBounds_toArray, List.set_cons_zero, List.set_cons_succ, i64_w, i32_w]
        rfl
      refine take_ (i := 3) (N := some 49) (v := ?_) (a' := ?_) #[true, true, true, true, true, true, true, false, false, false] rfl rfl (by kernel_rfl) (fun _ _ _ h => h) (Or.inl ⟨by rfl, ?_⟩) hHeld ?_ ?_
      rotate_left
      · rintro w' ⟨s0, s1⟩
        go_simp
        with_reducible rfl
      rotate_left
      · simp only [Act.put, List.setIfInBounds_toArray, List.set_cons_zero, List.set_cons_succ, i64_w, i32_w]
        rfl
      refine take_ (i := 7) (N := some 53) (v := ?_) (a' := ?_) #[true, true, true, true, true, true, true, true, false, false] rfl rfl (by kernel_rfl) (fun _ _ _ h => h) (Or.inl ⟨by rfl, ?_⟩) hHeld ?_ ?_
      rotate_left
      · rintro w' ⟨s0, s1⟩
        go_simp
        with_reducible rfl
      rotate_left
      · simp only [Act.put, List.setIfInBounds_toArray, List.set_cons_zero, List.set_cons_succ, i64_w, i32_w]
        rfl
      refine one_ (i := 8) (N := some 54) #[true, true, true, true, true, true, true, true, true, false] rfl rfl (by kernel_rfl) (by decide) (fun K hK => ?_)
      refine goes_ Try.func14 (by kernel_rfl) rfl _ (by rfl) rfl rfl (by simp only [List.map_toArray, List.map_cons, List.map_nil]; rfl) ?_
      refine (alike_calls _ _ (Fe.refl _) _).mono ?_
      rintro e u1 ⟨rfl, hd1⟩
      refine ⟨_, rfl, ?_⟩
      have hD := Drawn0.then (drawn_drew hD) hd1
      refine hK.out _ _ ⟨dcell hd1 hHeld.1, dcell hd1 hHeld.2⟩ (fun hHeld => ?_)
      clear hK K
      refine norm_ (a' := ?_) ?_ ?_
      rotate_left
      · show Act.put _ (some 54) _ = _
        simp only [Act.put, List.setIfInBounds_toArray, List.set_cons_zero, List.set_cons_succ, i64_w, i32_w]
        rfl
      refine pure_ (i := 9) (N := some 55) (v := ?_) (a' := ?_) #[true, true, true, true, true, true, true, true, true, true] rfl rfl (by kernel_rfl) (fun _ _ _ h => h) (Or.inl ⟨by rfl, ?_⟩) ?_ ?_
      rotate_left
      · intro w'
        go_simp
        with_reducible rfl
      rotate_left
      · simp only [Act.put, List.setIfInBounds_toArray, List.set_cons_zero, List.set_cons_succ, i64_w, i32_w]
        rfl
      refine done_ (by kernel_rfl) ?_

      go_wp2
      go_roundw
      case rel => exact ⟨k + 1, by omega, by go_num, ⟨hD⟩⟩
      case measure => simp [intOf]; omega
    · have hke : k = l.length := by omega
      subst hke
      have hD := HD.out
      have hF := hF.drawn hD
      have hown := own_drawn hown hD
      have hB := dbelow hD hB
      clear HD
      go_wp2_with fail
      go_loopw [5] (fun i wr => ∃ (k : Nat) (xs : List Nat), k ≤ l.length ∧ i = .int .i64 k ∧ Aside0 (wr.ownsRow w.heap.size 22 1 (.slice (some ⟨g3, 0, none⟩) (l.length + 2) c3) (l.length + 2) (encs (fun n : Nat => Value.float .f32 n) xs)) ∧ Aside0 (Below w.heap.size w wr)) (fun i _ => l.length - (intOf i).toNat)
      case atStart => exact ⟨0, _, Nat.zero_le _, rfl, ⟨hown⟩, ⟨hB⟩⟩
      case round =>
        clear hB hown
        obtain ⟨k, xs, hk, rfl, HO, HB⟩ := hrel
        by_cases hlt : k < l.length
        · have hown := HO.out
          have hB := HB.out
          clear HO HB
          have hat := own_at_of (d := 0) hown (k : Int) (by omega) (by omega)
          rw [Int.toNat_natCast] at hat
          have hca := hat.1
          have hfa := hat.2
          have hst := (own_store_of hown (k : Int) (floatOfInt .f32 k)).1
          rw [Int.toNat_natCast] at hst
          have hk2 : (k : Int) < (l.length : Int) := Int.ofNat_lt.mpr hlt
          have hk3 : (k : Int) < ((l.length : Int) + 2) := by omega
          have hk4 : (k : Int) < ((l.length + 2 : Nat) : Int) := by omega
          have hk0 : (0 : Int) ≤ k := Int.natCast_nonneg k
          clear hown hat
          go_wp2_with fail
          go_roundw
          case rel => exact ⟨k + 1, _, by omega, by go_num, ⟨hst⟩, ⟨below_set hB hge⟩⟩
          case measure => simp [intOf]; omega
        · have hke : k = l.length := by omega
          subst hke
          have hB := HB.out
          obtain ⟨lm, hlm, hFm⟩ := own_front HO.out
          clear HO HB
          have hq : ∀ w' : World, (binOp .eql 22 (.float .f32 0) (.float .f32 0)).run Try.prog w' = .ok (.bool true) w' := fun w' => (run_flc w' .eql 22 0 0 (.inl rfl)).trans (by rw [show fcmp .eql 0 0 = true from by kernel_rfl])
          have hc0 : (0 : Int) ≤ l.length := Int.natCast_nonneg _
          have hc4 : (l.length : Int) ≤ c3 := by omega
          go_wp2_with fail
          refine start_ (n := 19) (S := fun w' => True) (ds := []) #[false, false, false, false, false, false, false, false, false, false, false, false, false, false, false, false, false, false, false] (by kernel_rfl) rfl rfl trivial (fun hHeld => ?_)
          refine one_ (i := 0) (N := some 67) #[true, false, false, false, false, false, false, false, false, false, false, false, false, false, false, false, false, false, false] rfl rfl (by kernel_rfl) (by decide) (fun K hK => ?_)
          refine goes_ Try.func15 (by kernel_rfl) rfl _ (by rfl) rfl rfl (by simp only [List.map_toArray, List.map_cons, List.map_nil]; rfl) ?_
          refine (mean_at none 0 [] 0 _ rfl (fun j hj => absurd hj (Nat.not_lt_zero _)) (Nat.zero_le _)).mono ?_
          rintro e u1 ⟨r1, hr1, rfl, hd1⟩
          obtain rfl : r1 = 0 := mean_none hr1
          refine ⟨_, rfl, ?_⟩
          have hFm := hFm.drawn (Drawn0.then (drawn_drew (Drawn0.refl _)) hd1)
          have hB := dbelow hd1 (below_drew1 hB)
          refine hK.out _ _ trivial (fun hHeld => ?_)
          clear hK K
          refine norm_ (a' := ?_) ?_ ?_
          rotate_left
          · show Act.put _ (some 67) _ = _
            simp only [Act.put, List.setIfInBounds_toArray, List.set_cons_zero, List.set_cons_succ, i64_w, i32_w]
            rfl
          refine pure_ (i := 1) (N := some 68) (v := ?_) (a' := ?_) #[true, true, false, false, false, false, false, false, false, false, false, false, false, false, false, false, false, false, false] rfl rfl (by kernel_rfl) (fun _ _ _ h => h) (Or.inl ⟨by rfl, ?_⟩) ?_ ?_
          rotate_left
          · intro w'
            go_simp
            with_reducible rfl
          rotate_left
          · simp only [Act.put, List.setIfInBounds_toArray, List.set_cons_zero, List.set_cons_succ, i64_w, i32_w]
            rfl
          refine pure_ (i := 2) (N := some 69) (v := ?_) (a' := ?_) #[true, true, true, false, false, false, false, false, false, false, false, false, false, false, false, false, false, false, false] rfl rfl (by kernel_rfl) (fun _ _ _ h => h) (Or.inl ⟨by rfl, ?_⟩) ?_ ?_
          rotate_left
          · intro w'
            go_simp
            with_reducible rfl
          rotate_left
          · simp only [Act.put, List.setIfInBounds_toArray, List.set_cons_zero, List.set_cons_succ, i64_w, i32_w]
            rfl
          refine pure_ (i := 3) (N := some 70) (v := ?_) (a' := ?_) #[true, true, true, true, false, false, false, false, false, false, false, false, false, false, false, false, false, false, false] rfl rfl (by kernel_rfl) (fun _ _ _ h => h) (Or.inl ⟨by rfl, ?_⟩) ?_ ?_
          rotate_left
          · intro w'
            go_simp
            with_reducible rfl
          rotate_left
          · simp only [Act.put, List.setIfInBounds_toArray, List.set_cons_zero, List.set_cons_succ, i64_w, i32_w]
            rfl
          refine pure_ (i := 4) (N := some 71) (v := ?_) (a' := ?_) #[true, true, true, true, true, false, false, false, false, false, false, false, false, false, false, false, false, false, false] rfl rfl (by kernel_rfl) (fun _ _ _ h => h) (Or.inl ⟨by rfl, ?_⟩) ?_ ?_
          rotate_left
          · intro w'
            go_simp
            with_reducible rfl
          rotate_left
          · simp only [Act.put, List.setIfInBounds_toArray, List.set_cons_zero, List.set_cons_succ, i64_w, i32_w]
            rfl
          refine pure_ (i := 5) (N := some 72) (v := ?_) (a' := ?_) #[true, true, true, true, true, true, false, false, false, false, false, false, false, false, false, false, false, false, false] rfl rfl (by kernel_rfl) (fun _ _ _ h => h) (Or.inl ⟨by rfl, ?_⟩) ?_ ?_
          rotate_left
          · intro w'
            go_simp
            with_reducible rfl
          rotate_left
          · simp only [Act.put, List.setIfInBounds_toArray, List.set_cons_zero, List.set_cons_succ, i64_w, i32_w]
            rfl
          refine pure_ (i := 6) (N := some 73) (v := ?_) (a' := ?_) #[true, true, true, true, true, true, true, false, false, false, false, false, false, false, false, false, false, false, false] rfl rfl (by kernel_rfl) (fun _ _ _ h => h) (Or.inl ⟨by rfl, ?_⟩) ?_ ?_
          rotate_left
          · intro w'
            go_simp
            with_reducible rfl
          rotate_left
          · simp only [Act.put, List.setIfInBounds_toArray, List.set_cons_zero, List.set_cons_succ, i64_w, i32_w]
            rfl
          refine pure_ (i := 8) (N := some 75) (v := ?_) (a' := ?_) #[true, true, true, true, true, true, true, false, true, false, false, false, false, false, false, false, false, false, false] rfl rfl (by kernel_rfl) (fun _ _ _ h => h) (Or.inl ⟨by rfl, ?_⟩) ?_ ?_
          rotate_left
          · intro w'
            go_simp
            with_reducible rfl
          rotate_left
          · simp only [Act.put, List.setIfInBounds_toArray, List.set_cons_zero, List.set_cons_succ, i64_w, i32_w]
            rfl
          refine pure_ (i := 9) (N := some 76) (v := ?_) (a' := ?_) #[true, true, true, true, true, true, true, false, true, true, false, false, false, false, false, false, false, false, false] rfl rfl (by kernel_rfl) (fun _ _ _ h => h) (Or.inl ⟨by rfl, ?_⟩) ?_ ?_
          rotate_left
          · intro w'
            go_simp
            with_reducible rfl
          rotate_left
          · simp only [Act.put, List.setIfInBounds_toArray, List.set_cons_zero, List.set_cons_succ, i64_w, i32_w]
            rfl
          refine pure_ (i := 10) (N := some 77) (v := ?_) (a' := ?_) #[true, true, true, true, true, true, true, false, true, true, true, false, false, false, false, false, false, false, false] rfl rfl (by kernel_rfl) (fun _ _ _ h => h) (Or.inl ⟨by rfl, ?_⟩) ?_ ?_
          rotate_left
          · intro w'
            go_simp
            with_reducible rfl
          rotate_left
          · simp only [Act.put, List.setIfInBounds_toArray, List.set_cons_zero, List.set_cons_succ, i64_w, i32_w]
            rfl
          refine pure_ (i := 11) (N := some 78) (v := ?_) (a' := ?_) #[true, true, true, true, true, true, true, false, true, true, true, true, false, false, false, false, false, false, false] rfl rfl (by kernel_rfl) (fun _ _ _ h => h) (Or.inl ⟨by rfl, ?_⟩) ?_ ?_
          rotate_left
          · intro w'
            go_simp
            with_reducible rfl
          rotate_left
          · simp only [Act.put, List.setIfInBounds_toArray, List.set_cons_zero, List.set_cons_succ, i64_w, i32_w]
            rfl
          refine one_ (i := 7) (N := some 74) #[true, true, true, true, true, true, true, true, true, true, true, true, false, false, false, false, false, false, false] rfl rfl (by kernel_rfl) (by decide) (fun K hK => ?_)
          refine goes_ Try.func15 (by kernel_rfl) rfl _ (by rfl) rfl rfl (by simp only [List.map_toArray, List.map_cons, List.map_nil]; rfl) ?_
          refine (mean_at _ c3 lm l.length _ hlm hFm (by omega)).mono ?_
          rintro e u2 ⟨r2, hr2, rfl, hd2⟩
          refine ⟨_, rfl, ?_⟩
          have hFm := hFm.drawn hd2
          have hB := dbelow hd2 hB
          refine hK.out _ _ trivial (fun hHeld => ?_)
          clear hK K
          refine norm_ (a' := ?_) ?_ ?_
          rotate_left
          · show Act.put _ (some 74) _ = _
            simp only [Act.put, List.setIfInBounds_toArray, List.set_cons_zero, List.set_cons_succ, i64_w, i32_w]
            rfl
          refine one_ (i := 12) (N := some 79) #[true, true, true, true, true, true, true, true, true, true, true, true, true, false, false, false, false, false, false] rfl rfl (by kernel_rfl) (by decide) (fun K hK => ?_)
          refine goes_ Try.func16 (by kernel_rfl) rfl _ (by rfl) rfl rfl (by simp only [List.map_toArray, List.map_cons, List.map_nil]; rfl) ?_
          refine (refmean_at _ c3 lm l.length _ hlm hFm (by omega)).mono ?_
          rintro e u3 ⟨r3, hr3, rfl, hd3⟩
          refine ⟨_, rfl, ?_⟩
          have hFm := hFm.drawn hd3
          have hB := dbelow hd3 hB
          refine hK.out _ _ trivial (fun hHeld => ?_)
          clear hK K
          refine norm_ (a' := ?_) ?_ ?_
          rotate_left
          · show Act.put _ (some 79) _ = _
            simp only [Act.put, List.setIfInBounds_toArray, List.set_cons_zero, List.set_cons_succ, i64_w, i32_w]
            rfl
          refine one_ (i := 13) (N := some 80) #[true, true, true, true, true, true, true, true, true, true, true, true, true, true, false, false, false, false, false] rfl rfl (by kernel_rfl) (by decide) (fun K hK => ?_)
          refine goes_ Try.func14 (by kernel_rfl) rfl _ (by rfl) rfl rfl (by simp only [List.map_toArray, List.map_cons, List.map_nil]; rfl) ?_
          refine (alike_calls r2 r3 (hr2.trans hr3.symm) _).mono ?_
          rintro e u4 ⟨rfl, hd4⟩
          refine ⟨_, rfl, ?_⟩
          have hFm := hFm.drawn hd4
          have hB := dbelow hd4 hB
          refine hK.out _ _ trivial (fun hHeld => ?_)
          clear hK K
          refine norm_ (a' := ?_) ?_ ?_
          rotate_left
          · show Act.put _ (some 80) _ = _
            simp only [Act.put, List.setIfInBounds_toArray, List.set_cons_zero, List.set_cons_succ, i64_w, i32_w]
            rfl
          refine pure_ (i := 14) (N := some 81) (v := ?_) (a' := ?_) #[true, true, true, true, true, true, true, true, true, true, true, true, true, true, true, false, false, false, false] rfl rfl (by kernel_rfl) (fun _ _ _ h => h) (Or.inl ⟨by rfl, ?_⟩) ?_ ?_
          rotate_left
          · intro w'
            go_simp
            with_reducible rfl
          rotate_left
          · simp only [Act.put, List.setIfInBounds_toArray, List.set_cons_zero, List.set_cons_succ, i64_w, i32_w]
            rfl
          refine pure_ (i := 15) (N := some 82) (v := ?_) (a' := ?_) #[true, true, true, true, true, true, true, true, true, true, true, true, true, true, true, true, false, false, false] rfl rfl (by kernel_rfl) (fun _ _ _ h => h) (Or.inl ⟨by rfl, ?_⟩) ?_ ?_
          rotate_left
          · intro w'
            go_simp
            with_reducible rfl
          rotate_left
          · simp only [Act.put, List.setIfInBounds_toArray, List.set_cons_zero, List.set_cons_succ, i64_w, i32_w]
            rfl
          refine one_ (i := 16) (N := some 83) #[true, true, true, true, true, true, true, true, true, true, true, true, true, true, true, true, true, false, false] rfl rfl (by kernel_rfl) (by decide) (fun K hK => ?_)
          refine goes_ Try.func10 (by kernel_rfl) rfl _ (by rfl) rfl rfl (by simp only [List.map_toArray, List.map_cons, List.map_nil]; rfl) ?_
          refine (alive_calls _).mono ?_
          rintro e u5 ⟨rfl, hb5⟩
          refine ⟨_, rfl, ?_⟩
          have hB := below_step hB hb5
          refine hK.out _ _ trivial (fun hHeld => ?_)
          clear hK K
          refine norm_ (a' := ?_) ?_ ?_
          rotate_left
          · show Act.put _ (some 83) _ = _
            simp only [Act.put, List.setIfInBounds_toArray, List.set_cons_zero, List.set_cons_succ, i64_w, i32_w]
            rfl
          refine pure_ (i := 17) (N := some 84) (v := ?_) (a' := ?_) #[true, true, true, true, true, true, true, true, true, true, true, true, true, true, true, true, true, true, false] rfl rfl (by kernel_rfl) (fun _ _ _ h => h) (Or.inl ⟨by rfl, ?_⟩) ?_ ?_
          rotate_left
          · intro w'
            go_simp
            with_reducible rfl
          rotate_left
          · simp only [Act.put, List.setIfInBounds_toArray, List.set_cons_zero, List.set_cons_succ, i64_w, i32_w]
            rfl
          refine pure_ (i := 18) (N := some 2) (v := ?_) (a' := ?_) #[true, true, true, true, true, true, true, true, true, true, true, true, true, true, true, true, true, true, true] rfl rfl (by kernel_rfl) (fun _ _ _ h => h) (Or.inl ⟨by rfl, ?_⟩) ?_ ?_
          rotate_left
          · intro w'
            go_simp
            with_reducible rfl
          rotate_left
          · simp only [Act.put, List.setIfInBounds_toArray, List.set_cons_zero, List.set_cons_succ, i64_w, i32_w]
            rfl
          refine done_ (by kernel_rfl) ?_
    
          go_wp2
          go_ret
          exact ⟨rfl, hB⟩
end Go.Proofs.Ytjffkidfoapbjaa.Fl
