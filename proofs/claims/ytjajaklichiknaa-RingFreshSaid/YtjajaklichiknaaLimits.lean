/- Proved: the walk of RingLimits: true for every input. -/
import Derived.Test.YtjajaklichiknaaAlive
namespace Go.Proofs.Ytjajaklichiknaa.Rg
open Go.RowKit Go.Proofs.YtjajaklichiknaaW.PrintWords Go.Proofs.YtjajaklichiknaaW.PrintLast Go.Proofs.YtjajaklichiknaaW.PrintMore
set_option linter.unusedVariables false
set_option linter.unusedSimpArgs false

def seq (n : Nat) : List Int := (List.range n).map fun i : Nat => (i : Int)
theorem seq_len (n : Nat) : (seq n).length = n := by simp [seq]
theorem seq_snoc (n : Nat) : seq n ++ [(n : Int)] = seq (n + 1) := by simp [seq, List.range_succ]
theorem seq_get (n i : Nat) (h : i < n) : (seq n).getD i 0 = i := by simp [seq, List.getD_eq_getElem?_getD, h]
theorem Taken.full {w w' : World} {g gt n k : Nat} {v : Value} (h : Taken w w' g gt n (seq n) k v) (h0 : 0 < n) (hk : n ≤ k) : ∃ gl c, v = .slice (some ⟨gl, 0, none⟩) n c ∧ n ≤ c ∧ w'.cell? ⟨gl, 0, none⟩ = some (.int .i64 0) ∧ w'.cell? ⟨gl, n - 1, none⟩ = some (.int .i64 ((n : Int) - 1)) ∧ RQ w' g gt n [] := by
  have e1 : (seq n).take k = seq n := List.take_of_length_le (by rw [seq_len]; exact hk)
  have e2 : (seq n).drop k = [] := List.drop_eq_nil_of_le (by rw [seq_len]; exact hk)
  obtain ⟨ho, hr, _⟩ := h
  rw [e1, seq_len] at ho
  rw [e2] at hr
  obtain ⟨gl, c, rfl, _, _⟩ := ho.form h0
  have a0 := (own_at_of (d := 0) ho ((0 : Nat) : Int) (by omega) (by omega)).1
  have a1 := (own_at_of (d := 0) ho ((n - 1 : Nat) : Int) (by omega) (by omega)).1
  simp only [Int.toNat_natCast, rdOf] at a0 a1
  rw [seq_get n 0 h0] at a0
  rw [seq_get n (n - 1) (by omega)] at a1
  exact ⟨gl, c, rfl, own_le ho, a0, by rw [a1]; congr 2; omega, hr⟩
theorem take_all (w : World) {g gt n : Nat} (h : RQ w g gt n (seq n)) (h0 : 0 < n) : Calls Try.prog 12 #[.pointer (some ⟨g, 0, none⟩), .int .i64 4611686018427387904] w fun e w' => ∃ gl c, e = .returned (.slice (some ⟨gl, 0, none⟩) n c) ∧ n ≤ c ∧ w'.cell? ⟨gl, 0, none⟩ = some (.int .i64 0) ∧ w'.cell? ⟨gl, n - 1, none⟩ = some (.int .i64 ((n : Int) - 1)) ∧ RQ w' g gt n [] ∧ Only w w' (fun k => k = g ∨ k = gt) := by
  obtain ⟨s0, s1⟩ := h.size
  refine (take_calls w h 4611686018427387904 (by omega) (by omega)).mono ?_
  rintro e w' ⟨v, rfl, hT⟩
  obtain ⟨gl, c, rfl, h1, h2, h3, h4⟩ := hT.full h0 (by omega)
  exact ⟨gl, c, rfl, h1, h2, h3, h4, hT.only⟩
theorem take_nil (w : World) {g gt n : Nat} (h : RQ w g gt n []) : Calls Try.prog 12 #[.pointer (some ⟨g, 0, none⟩), .int .i64 3] w fun e w' => ∃ A c, e = .returned (.slice A 0 c) ∧ RQ w' g gt n [] ∧ Only w w' (fun k => k = g ∨ k = gt) := by
  refine (take_calls w h 3 (by omega) (by omega)).mono ?_
  rintro e w' ⟨v, rfl, hT⟩
  obtain ⟨A, c, rfl, h1, h2⟩ := hT.slice [] 0 rfl rfl
  exact ⟨A, c, rfl, hT.ring, hT.only⟩
set_option maxHeartbeats 4000000 in
set_option maxRecDepth 100000 in
theorem limits_bad (w : World) (s t i : Int) (hs : s < 1 ∨ 4096 < s) : Calls Try.prog 5 #[.int .i64 s, .int .i64 t, .int .i64 i] w fun e w' => e = .returned (.bool true) ∧ Below w.heap.size w w' := by
  by_cases h1 : s < 1
  · go_enter Try.func5, Try.ntmps5
    go_wp2_with (first
    | (go_at_call 8; refine (alive_calls _).mono ?_; rintro e w1 ⟨rfl, hB⟩)
    | (go_at_call 9; refine (new_bad _ s hs).mono ?_; rintro e w2 ⟨rfl, hd⟩; have hB := dbelow hd hB; clear hd)
    | ((with_reducible refine gate_callee (f := 10) rfl ?_); (try (refine gate_guard (by rfl) ?_; dsimp only)); refine goesL_ _ rfl rfl Try.func10 (by kernel_rfl) rfl _ rfl (by (try simp only [List.map_toArray, List.map_cons, List.map_nil]); first | done | rfl) ?_; refine (num_calls _ _).mono ?_; rintro e w9 ⟨rfl, hd⟩; refine ⟨_, rfl, ?_⟩; have hB := dbelow hd hB; clear hd))
    go_ret
    exact ⟨rfl, hB⟩
  · have h2 : 4096 < s := by omega
    have h3 : 1 ≤ s := by omega
    go_enter Try.func5, Try.ntmps5
    go_wp2_with (first
    | (go_at_call 8; refine (alive_calls _).mono ?_; rintro e w1 ⟨rfl, hB⟩)
    | (go_at_call 9; refine (new_bad _ s hs).mono ?_; rintro e w2 ⟨rfl, hd⟩; have hB := dbelow hd hB; clear hd)
    | ((with_reducible refine gate_callee (f := 10) rfl ?_); (try (refine gate_guard (by rfl) ?_; dsimp only)); refine goesL_ _ rfl rfl Try.func10 (by kernel_rfl) rfl _ rfl (by (try simp only [List.map_toArray, List.map_cons, List.map_nil]); first | done | rfl) ?_; refine (num_calls _ _).mono ?_; rintro e w9 ⟨rfl, hd⟩; refine ⟨_, rfl, ?_⟩; have hB := dbelow hd hB; clear hd))
    go_ret
    exact ⟨rfl, hB⟩
set_option maxHeartbeats 8000000 in
set_option maxRecDepth 100000 in
theorem limits_ok (w : World) (n : Nat) (h0 : 0 < n) (h1 : n ≤ 4096) (s i : Int) (hi0 : -9223372036854775808 ≤ i) (hi1 : i ≤ 9223372036854775807) : Calls Try.prog 5 #[.int .i64 n, .int .i64 s, .int .i64 i] w fun e w' => e = .returned (.bool true) ∧ Below w.heap.size w w' := by
  obtain ⟨t, ht⟩ : ∃ t, s.tmod 50 = t := ⟨_, rfl⟩
  have ht0 : -50 < t := by rw [← ht]; exact Int.lt_tmod_of_pos s (by decide)
  have ht1 : t < 50 := by rw [← ht]; exact Int.tmod_lt_of_pos s (by decide)
  have hn1 : (1 : Int) ≤ n := by omega
  have hn2 : (n : Int) ≤ 4096 := by omega
  have hn5 : (0 : Int) ≤ (n : Int) - 1 := by omega
  have hn6 : (n : Int) - 1 < (n : Int) := by omega
  have hn7 : ((n : Int) - 1).toNat = n - 1 := by omega
  have hn8 : (0 : Int) < (n : Int) := by omega
  by_cases htn : t < 0
  · go_enter Try.func5, Try.ntmps5
    go_wp2_with (first
    | (go_at_call 8; refine (alive_calls _).mono ?_; rintro e w1 ⟨rfl, hB⟩; have hB0 := hB.size)
    | (go_at_call 9; refine (new_ok _ n h0 h1).mono ?_; rintro e w2 ⟨g, gt, rfl, hR, hg, hgt, hne, hb⟩; have hB := below_step hB hb; have hS := above_two (Nat.le_trans hB0 hg) (Nat.le_trans hB0 hgt); clear hb hg hgt)
    | (go_at_call 10; refine (num_calls _ _).mono ?_; rintro e w9 ⟨rfl, hd⟩; have hR := hR.drawn hd; have hB := dbelow hd hB; clear hd)
    | ((with_reducible refine gate_callee (f := 10) rfl ?_); (try (refine gate_guard (by rfl) ?_; dsimp only)); refine goesL_ _ rfl rfl Try.func10 (by kernel_rfl) rfl _ rfl (by (try simp only [List.map_toArray, List.map_cons, List.map_nil]); first | done | rfl) ?_; refine (num_calls _ _).mono ?_; rintro e w9 ⟨rfl, hd⟩; refine ⟨_, rfl, ?_⟩; have hR := hR.drawn hd; have hB := dbelow hd hB; clear hd))
    go_loopw [10] (fun i wr => ∃ k : Nat, k ≤ 50 ∧ i = .int .i64 k ∧ Aside0 (RQ wr g gt n []) ∧ Aside0 (Below w.heap.size w wr)) (fun i _ => 50 - (intOf i).toNat)
    case atStart => exact ⟨0, by omega, rfl, ⟨hR⟩, ⟨hB⟩⟩
    case round =>
      clear hR hB
      obtain ⟨k, hk, rfl, HR, HB⟩ := hrel
      by_cases hlt : (k : Int) < -t
      · have hR := HR.out
        have hB := HB.out
        clear HR HB
        go_wp2_with (first
        | (go_at_call 11; refine (pushq_room _ hR _ (by simp only [List.length_nil]; exact h0)).mono ?_; rintro e w9 ⟨rfl, hR, hO⟩; simp only [List.nil_append, List.cons_append, List.singleton_append] at hR; have hB := hO.below hB hB.size hS; clear hO)
        | (go_at_call 13; refine (popq_some _ hR _ _ rfl).mono ?_; rintro e w9 ⟨rfl, hR, hO⟩; have hB := hO.below hB hB.size hS; clear hO))
        go_roundw
        case rel => exact ⟨k + 1, by omega, by go_num, ⟨hR⟩, ⟨hB⟩⟩
        case measure => simp [intOf]; omega
      · have hR := HR.out
        have hB := HB.out
        clear HR HB
        have hle : -t ≤ (k : Int) := by omega
        go_wp2_with fail
        go_loopw [11] (fun i wr => ∃ k : Nat, k ≤ n ∧ i = .int .i64 k ∧ Aside0 (RQ wr g gt n (seq k)) ∧ Aside0 (Below w.heap.size w wr)) (fun i _ => n - (intOf i).toNat)
        case atStart => exact ⟨0, Nat.zero_le _, rfl, ⟨hR⟩, ⟨hB⟩⟩
        case round =>
          clear hR hB
          obtain ⟨k, hk, rfl, HR, HB⟩ := hrel
          by_cases hlt : k < n
          · have hR := HR.out
            have hB := HB.out
            clear HR HB
            have hk2 : (k : Int) < (n : Int) := Int.ofNat_lt.mpr hlt
            have hrm : ((n - (seq (k + 1)).length : Nat) : Int) = (n : Int) - k - 1 := by rw [seq_len]; omega
            go_wp2_with (first
            | (go_at_call 11; refine (pushq_room _ hR _ (by rw [seq_len]; exact hlt)).mono ?_; rintro e w9 ⟨rfl, hR, hO⟩; rw [seq_snoc] at hR; have hB := hO.below hB hB.size hS; clear hO)
            | (go_at_call 10; refine (num_calls _ _).mono ?_; rintro e w9 ⟨rfl, hd⟩; have hR := hR.drawn hd; have hB := dbelow hd hB; clear hd)
            | ((with_reducible refine gate_callee (f := 16) rfl ?_); (try (refine gate_guard (by rfl) ?_; dsimp only)); refine goesL_ _ rfl rfl Try.func16 (by kernel_rfl) rfl _ rfl (by (try simp only [List.map_toArray, List.map_cons, List.map_nil]); first | done | rfl) ?_; refine (roomq_calls _ hR).mono ?_; rintro e w12 ⟨rfl, hd⟩; refine ⟨_, rfl, ?_⟩; have hR := hR.drawn hd; have hB := dbelow hd hB; clear hd))
            go_roundw
            case rel => exact ⟨k + 1, by omega, by go_num, ⟨hR⟩, ⟨hB⟩⟩
            case measure => simp [intOf]; omega
          · have hke : n = k := by omega
            subst hke
            have hR := HR.out
            have hB := HB.out
            clear HR HB
            by_cases hin : 0 ≤ i ∧ i < n
            · obtain ⟨j, rfl⟩ : ∃ j : Nat, i = j := ⟨i.toNat, by omega⟩
              have hj : j < n := by omega
              have hjI : (j : Int) < (n : Int) := hin.2
              have hj0 : (0 : Int) ≤ (j : Int) := hin.1
              clear hin
              go_wp2_with (first
            | (go_at_call 21; refine (atq_in _ hR j (by rw [seq_len]; exact hj)).mono ?_; rw [seq_get n j hj]; rintro e w9 ⟨rfl, hd⟩; have hR := hR.drawn hd; have hB := dbelow hd hB; clear hd)
            | (go_at_call 11; refine (pushq_full _ hR _ (seq_len n)).mono ?_; rintro e w9 ⟨rfl, hd⟩; have hR := hR.drawn hd; have hB := dbelow hd hB; clear hd)
            | (go_at_call 10; refine (num_calls _ _).mono ?_; rintro e w9 ⟨rfl, hd⟩; have hR := hR.drawn hd; have hB := dbelow hd hB; clear hd)
            | (go_at_call 12; refine (take_all _ hR h0).mono ?_; rintro e w7 ⟨gl, cl, rfl, hle, hl0, hl1, hR, hO⟩; have hB := hO.below hB hB.size hS; clear hO))
              refine (popq_none _ hR rfl).mono ?_
              rintro e w9 ⟨rfl, hd⟩
              have hl0 := dcell hd hl0
              have hl1 := dcell hd hl1
              have hR := hR.drawn hd; have hB := dbelow hd hB; clear hd
              go_wp2_with fail
              refine (take_nil _ hR).mono ?_
              rintro e w8 ⟨A8, c8, rfl, hR, hO⟩
              have hB := hO.below hB hB.size hS
              go_wp2_with fail
              go_ret
              exact ⟨rfl, hB⟩
            · have hout : i < 0 ∨ ((seq n).length : Int) ≤ i := by rw [seq_len]; omega
              by_cases hneg : i < 0
              · go_wp2_with (first
            | (go_at_call 21; refine (atq_out _ hR i hout).mono ?_; rintro e w9 ⟨rfl, hd⟩; have hR := hR.drawn hd; have hB := dbelow hd hB; clear hd)
            | (go_at_call 11; refine (pushq_full _ hR _ (seq_len n)).mono ?_; rintro e w9 ⟨rfl, hd⟩; have hR := hR.drawn hd; have hB := dbelow hd hB; clear hd)
            | (go_at_call 10; refine (num_calls _ _).mono ?_; rintro e w9 ⟨rfl, hd⟩; have hR := hR.drawn hd; have hB := dbelow hd hB; clear hd)
            | (go_at_call 12; refine (take_all _ hR h0).mono ?_; rintro e w7 ⟨gl, cl, rfl, hle, hl0, hl1, hR, hO⟩; have hB := hO.below hB hB.size hS; clear hO))
                refine (popq_none _ hR rfl).mono ?_
                rintro e w9 ⟨rfl, hd⟩
                have hl0 := dcell hd hl0
                have hl1 := dcell hd hl1
                have hR := hR.drawn hd; have hB := dbelow hd hB; clear hd
                go_wp2_with fail
                refine (take_nil _ hR).mono ?_
                rintro e w8 ⟨A8, c8, rfl, hR, hO⟩
                have hB := hO.below hB hB.size hS
                go_wp2_with fail
                go_ret
                exact ⟨rfl, hB⟩
              · have hi2 : 0 ≤ i := by omega
                have hi3 : (n : Int) ≤ i := by omega
                go_wp2_with (first
            | (go_at_call 21; refine (atq_out _ hR i hout).mono ?_; rintro e w9 ⟨rfl, hd⟩; have hR := hR.drawn hd; have hB := dbelow hd hB; clear hd)
            | (go_at_call 11; refine (pushq_full _ hR _ (seq_len n)).mono ?_; rintro e w9 ⟨rfl, hd⟩; have hR := hR.drawn hd; have hB := dbelow hd hB; clear hd)
            | (go_at_call 10; refine (num_calls _ _).mono ?_; rintro e w9 ⟨rfl, hd⟩; have hR := hR.drawn hd; have hB := dbelow hd hB; clear hd)
            | (go_at_call 12; refine (take_all _ hR h0).mono ?_; rintro e w7 ⟨gl, cl, rfl, hle, hl0, hl1, hR, hO⟩; have hB := hO.below hB hB.size hS; clear hO))
                refine (popq_none _ hR rfl).mono ?_
                rintro e w9 ⟨rfl, hd⟩
                have hl0 := dcell hd hl0
                have hl1 := dcell hd hl1
                have hR := hR.drawn hd; have hB := dbelow hd hB; clear hd
                go_wp2_with fail
                refine (take_nil _ hR).mono ?_
                rintro e w8 ⟨A8, c8, rfl, hR, hO⟩
                have hB := hO.below hB hB.size hS
                go_wp2_with fail
                go_ret
                exact ⟨rfl, hB⟩
  · have htp : 0 ≤ t := by omega
    go_enter Try.func5, Try.ntmps5
    go_wp2_with (first
    | (go_at_call 8; refine (alive_calls _).mono ?_; rintro e w1 ⟨rfl, hB⟩; have hB0 := hB.size)
    | (go_at_call 9; refine (new_ok _ n h0 h1).mono ?_; rintro e w2 ⟨g, gt, rfl, hR, hg, hgt, hne, hb⟩; have hB := below_step hB hb; have hS := above_two (Nat.le_trans hB0 hg) (Nat.le_trans hB0 hgt); clear hb hg hgt)
    | (go_at_call 10; refine (num_calls _ _).mono ?_; rintro e w9 ⟨rfl, hd⟩; have hR := hR.drawn hd; have hB := dbelow hd hB; clear hd)
    | ((with_reducible refine gate_callee (f := 10) rfl ?_); (try (refine gate_guard (by rfl) ?_; dsimp only)); refine goesL_ _ rfl rfl Try.func10 (by kernel_rfl) rfl _ rfl (by (try simp only [List.map_toArray, List.map_cons, List.map_nil]); first | done | rfl) ?_; refine (num_calls _ _).mono ?_; rintro e w9 ⟨rfl, hd⟩; refine ⟨_, rfl, ?_⟩; have hR := hR.drawn hd; have hB := dbelow hd hB; clear hd))
    go_loopw [10] (fun i wr => ∃ k : Nat, k ≤ 50 ∧ i = .int .i64 k ∧ Aside0 (RQ wr g gt n []) ∧ Aside0 (Below w.heap.size w wr)) (fun i _ => 50 - (intOf i).toNat)
    case atStart => exact ⟨0, by omega, rfl, ⟨hR⟩, ⟨hB⟩⟩
    case round =>
      clear hR hB
      obtain ⟨k, hk, rfl, HR, HB⟩ := hrel
      by_cases hlt : (k : Int) < t
      · have hR := HR.out
        have hB := HB.out
        clear HR HB
        go_wp2_with (first
        | (go_at_call 11; refine (pushq_room _ hR _ (by simp only [List.length_nil]; exact h0)).mono ?_; rintro e w9 ⟨rfl, hR, hO⟩; simp only [List.nil_append, List.cons_append, List.singleton_append] at hR; have hB := hO.below hB hB.size hS; clear hO)
        | (go_at_call 13; refine (popq_some _ hR _ _ rfl).mono ?_; rintro e w9 ⟨rfl, hR, hO⟩; have hB := hO.below hB hB.size hS; clear hO))
        go_roundw
        case rel => exact ⟨k + 1, by omega, by go_num, ⟨hR⟩, ⟨hB⟩⟩
        case measure => simp [intOf]; omega
      · have hR := HR.out
        have hB := HB.out
        clear HR HB
        have hle : t ≤ (k : Int) := by omega
        go_wp2_with fail
        go_loopw [11] (fun i wr => ∃ k : Nat, k ≤ n ∧ i = .int .i64 k ∧ Aside0 (RQ wr g gt n (seq k)) ∧ Aside0 (Below w.heap.size w wr)) (fun i _ => n - (intOf i).toNat)
        case atStart => exact ⟨0, Nat.zero_le _, rfl, ⟨hR⟩, ⟨hB⟩⟩
        case round =>
          clear hR hB
          obtain ⟨k, hk, rfl, HR, HB⟩ := hrel
          by_cases hlt : k < n
          · have hR := HR.out
            have hB := HB.out
            clear HR HB
            have hk2 : (k : Int) < (n : Int) := Int.ofNat_lt.mpr hlt
            have hrm : ((n - (seq (k + 1)).length : Nat) : Int) = (n : Int) - k - 1 := by rw [seq_len]; omega
            go_wp2_with (first
            | (go_at_call 11; refine (pushq_room _ hR _ (by rw [seq_len]; exact hlt)).mono ?_; rintro e w9 ⟨rfl, hR, hO⟩; rw [seq_snoc] at hR; have hB := hO.below hB hB.size hS; clear hO)
            | (go_at_call 10; refine (num_calls _ _).mono ?_; rintro e w9 ⟨rfl, hd⟩; have hR := hR.drawn hd; have hB := dbelow hd hB; clear hd)
            | ((with_reducible refine gate_callee (f := 16) rfl ?_); (try (refine gate_guard (by rfl) ?_; dsimp only)); refine goesL_ _ rfl rfl Try.func16 (by kernel_rfl) rfl _ rfl (by (try simp only [List.map_toArray, List.map_cons, List.map_nil]); first | done | rfl) ?_; refine (roomq_calls _ hR).mono ?_; rintro e w12 ⟨rfl, hd⟩; refine ⟨_, rfl, ?_⟩; have hR := hR.drawn hd; have hB := dbelow hd hB; clear hd))
            go_roundw
            case rel => exact ⟨k + 1, by omega, by go_num, ⟨hR⟩, ⟨hB⟩⟩
            case measure => simp [intOf]; omega
          · have hke : n = k := by omega
            subst hke
            have hR := HR.out
            have hB := HB.out
            clear HR HB
            by_cases hin : 0 ≤ i ∧ i < n
            · obtain ⟨j, rfl⟩ : ∃ j : Nat, i = j := ⟨i.toNat, by omega⟩
              have hj : j < n := by omega
              have hjI : (j : Int) < (n : Int) := hin.2
              have hj0 : (0 : Int) ≤ (j : Int) := hin.1
              clear hin
              go_wp2_with (first
            | (go_at_call 21; refine (atq_in _ hR j (by rw [seq_len]; exact hj)).mono ?_; rw [seq_get n j hj]; rintro e w9 ⟨rfl, hd⟩; have hR := hR.drawn hd; have hB := dbelow hd hB; clear hd)
            | (go_at_call 11; refine (pushq_full _ hR _ (seq_len n)).mono ?_; rintro e w9 ⟨rfl, hd⟩; have hR := hR.drawn hd; have hB := dbelow hd hB; clear hd)
            | (go_at_call 10; refine (num_calls _ _).mono ?_; rintro e w9 ⟨rfl, hd⟩; have hR := hR.drawn hd; have hB := dbelow hd hB; clear hd)
            | (go_at_call 12; refine (take_all _ hR h0).mono ?_; rintro e w7 ⟨gl, cl, rfl, hle, hl0, hl1, hR, hO⟩; have hB := hO.below hB hB.size hS; clear hO))
              refine (popq_none _ hR rfl).mono ?_
              rintro e w9 ⟨rfl, hd⟩
              have hl0 := dcell hd hl0
              have hl1 := dcell hd hl1
              have hR := hR.drawn hd; have hB := dbelow hd hB; clear hd
              go_wp2_with fail
              refine (take_nil _ hR).mono ?_
              rintro e w8 ⟨A8, c8, rfl, hR, hO⟩
              have hB := hO.below hB hB.size hS
              go_wp2_with fail
              go_ret
              exact ⟨rfl, hB⟩
            · have hout : i < 0 ∨ ((seq n).length : Int) ≤ i := by rw [seq_len]; omega
              by_cases hneg : i < 0
              · go_wp2_with (first
            | (go_at_call 21; refine (atq_out _ hR i hout).mono ?_; rintro e w9 ⟨rfl, hd⟩; have hR := hR.drawn hd; have hB := dbelow hd hB; clear hd)
            | (go_at_call 11; refine (pushq_full _ hR _ (seq_len n)).mono ?_; rintro e w9 ⟨rfl, hd⟩; have hR := hR.drawn hd; have hB := dbelow hd hB; clear hd)
            | (go_at_call 10; refine (num_calls _ _).mono ?_; rintro e w9 ⟨rfl, hd⟩; have hR := hR.drawn hd; have hB := dbelow hd hB; clear hd)
            | (go_at_call 12; refine (take_all _ hR h0).mono ?_; rintro e w7 ⟨gl, cl, rfl, hle, hl0, hl1, hR, hO⟩; have hB := hO.below hB hB.size hS; clear hO))
                refine (popq_none _ hR rfl).mono ?_
                rintro e w9 ⟨rfl, hd⟩
                have hl0 := dcell hd hl0
                have hl1 := dcell hd hl1
                have hR := hR.drawn hd; have hB := dbelow hd hB; clear hd
                go_wp2_with fail
                refine (take_nil _ hR).mono ?_
                rintro e w8 ⟨A8, c8, rfl, hR, hO⟩
                have hB := hO.below hB hB.size hS
                go_wp2_with fail
                go_ret
                exact ⟨rfl, hB⟩
              · have hi2 : 0 ≤ i := by omega
                have hi3 : (n : Int) ≤ i := by omega
                go_wp2_with (first
            | (go_at_call 21; refine (atq_out _ hR i hout).mono ?_; rintro e w9 ⟨rfl, hd⟩; have hR := hR.drawn hd; have hB := dbelow hd hB; clear hd)
            | (go_at_call 11; refine (pushq_full _ hR _ (seq_len n)).mono ?_; rintro e w9 ⟨rfl, hd⟩; have hR := hR.drawn hd; have hB := dbelow hd hB; clear hd)
            | (go_at_call 10; refine (num_calls _ _).mono ?_; rintro e w9 ⟨rfl, hd⟩; have hR := hR.drawn hd; have hB := dbelow hd hB; clear hd)
            | (go_at_call 12; refine (take_all _ hR h0).mono ?_; rintro e w7 ⟨gl, cl, rfl, hle, hl0, hl1, hR, hO⟩; have hB := hO.below hB hB.size hS; clear hO))
                refine (popq_none _ hR rfl).mono ?_
                rintro e w9 ⟨rfl, hd⟩
                have hl0 := dcell hd hl0
                have hl1 := dcell hd hl1
                have hR := hR.drawn hd; have hB := dbelow hd hB; clear hd
                go_wp2_with fail
                refine (take_nil _ hR).mono ?_
                rintro e w8 ⟨A8, c8, rfl, hR, hO⟩
                have hB := hO.below hB hB.size hS
                go_wp2_with fail
                go_ret
                exact ⟨rfl, hB⟩
theorem limits.calls (s t i : Int) (hw : (Lit.int .i64 i).wf = true) (w : World) : Calls Try.prog 5 #[.int .i64 s, .int .i64 t, .int .i64 i] w fun e w' => e = .returned (.bool true) ∧ Below w.heap.size w w' := by
  have hb : -9223372036854775808 ≤ i ∧ i ≤ 9223372036854775807 := by
    simp [Lit.wf] at hw
    exact ⟨hw.1, hw.2⟩
  by_cases hs : s < 1 ∨ 4096 < s
  · exact limits_bad w s t i hs
  · obtain ⟨n, rfl⟩ : ∃ n : Nat, s = n := ⟨s.toNat, by omega⟩
    exact limits_ok w n (by omega) (by omega) t i hb.1 hb.2
end Go.Proofs.Ytjajaklichiknaa.Rg
