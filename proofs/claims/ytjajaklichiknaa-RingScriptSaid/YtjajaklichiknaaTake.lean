/- Proved: the walks of Take and same. -/
import Derived.Test.YtjajaklichiknaaNew
namespace Go.Proofs.Ytjajaklichiknaa.Rg
open Go.RowKit Go.Proofs.YtjajaklichiknaaW.PrintWords Go.Proofs.YtjajaklichiknaaW.PrintLast Go.Proofs.YtjajaklichiknaaW.PrintMore
set_option linter.unusedVariables false
set_option linter.unusedSimpArgs false

theorem Only.base {w w1 w2 : World} {S : Nat → Prop} (h : Only w w1 S) (k : Below w.heap.size w1 w2) : Only w w2 S :=
  ⟨k.os.trans h.os, k.tape.trans h.tape, k.output.trans h.output, Nat.le_trans h.size k.size, fun i hi hs => (k.block i hi).trans (h.block i hi hs)⟩
theorem RQ.base {B : Nat} {w w' : World} {g gt n : Nat} {q : List Int} (h : RQ w g gt n q) (d : Below B w w') (h1 : g < B) (h2 : gt < B) : RQ w' g gt n q :=
  let ⟨xs, f, hc, hq⟩ := h; ⟨xs, f, ⟨(d.block g h1).trans hc.hg, (d.block gt h2).trans hc.ht, hc.hne, hc.hn, hc.n0, hc.n1, hc.hf, hc.hm⟩, hq⟩
theorem own_far {w' : World} {base n size g gt : Nat} {e : TypeId} {v : Value} {xs : List Value} (h : w'.ownsRow base e size v n xs) (h1 : g < base) (h2 : gt < base) : ∀ k, v.ownBlock = some k → ¬ (k = g ∨ k = gt) := fun k hk he => by
  have := own_base h k hk
  omega
theorem drop_cons (q : List Int) (j : Nat) (hj : j < q.length) : q.drop j = q.getD j 0 :: q.drop (j + 1) := by
  rw [List.drop_eq_getElem_cons hj]
  simp [List.getD_eq_getElem?_getD, hj]
theorem take_snoc (q : List Int) (j : Nat) (hj : j < q.length) : q.take j ++ [q.getD j 0] = q.take (j + 1) := by
  rw [List.take_succ_eq_append_getElem hj]
  simp [List.getD_eq_getElem?_getD, hj]
/-- What was taken, and what is left. -/
structure Taken (w w' : World) (g gt n : Nat) (q : List Int) (k : Nat) (v : Value) : Prop where
  own : w'.ownsRow w.heap.size 3 1 v (q.take k).length (encs ei (q.take k))
  ring : RQ w' g gt n (q.drop k)
  only : Only w w' (fun k => k = g ∨ k = gt)
theorem Taken.of {w w' : World} {g gt n j : Nat} {q : List Int} {k : Nat} {v : Value} (hj : j = min k q.length) (h1 : w'.ownsRow w.heap.size 3 1 v (q.take j).length (encs ei (q.take j))) (h2 : RQ w' g gt n (q.drop j)) (h3 : Only w w' (fun k => k = g ∨ k = gt)) : Taken w w' g gt n q k v := by
  have e1 : q.take k = q.take j := by rw [hj, List.take_eq_take_iff]; omega
  have e2 : q.drop k = q.drop j := by
    rcases Nat.le_total k q.length with hle | hle
    · rw [show j = k by omega]
    · rw [List.drop_eq_nil_of_le hle, List.drop_eq_nil_of_le (by omega)]
  exact ⟨by rw [e1]; exact h1, by rw [e2]; exact h2, h3⟩
set_option maxHeartbeats 2000000 in
set_option maxRecDepth 100000 in
theorem take_calls (w : World) {g gt n : Nat} {q : List Int} (h : RQ w g gt n q) (k : Int) (hk0 : -9223372036854775808 ≤ k) (hk1 : k ≤ 9223372036854775807) : Calls Try.prog 12 #[.pointer (some ⟨g, 0, none⟩), .int .i64 k] w fun e w' => ∃ v, e = .returned v ∧ Taken w w' g gt n q k.toNat v := by
  have hu65 := Try.underlying65
  obtain ⟨s0, s1⟩ := h.size
  have hlen := h.len
  have hRQ := h
  obtain ⟨l0, l1⟩ := h.lt
  have c2 : w.cell? ⟨g, 2, none⟩ = some (.int .i64 q.length) := by obtain ⟨xs, f, hc, hq⟩ := h; exact hc.c2
  go_enter Try.func12, Try.ntmps12
  go_wp2_with fail
  all_goals
    go_loopw [1, 5, 6, 7] (fun nn out _ _ wr => ∃ (j : Nat) (c : Int), nn = .int .i64 c ∧ c.toNat + j = min k.toNat q.length ∧ (-9223372036854775808 ≤ c ∧ c ≤ 4096) ∧ Aside0 (wr.ownsRow w.heap.size 3 1 out (q.take j).length (encs ei (q.take j))) ∧ Aside0 (RQ wr g gt n (q.drop j)) ∧ Aside0 (Only w wr (fun k => k = g ∨ k = gt)))
      (fun nn _ _ _ _ => (intOf nn).toNat)
    case atStart => exact ⟨0, _, rfl, by omega, ⟨by omega, by omega⟩, ⟨own_nil _ _ _ _⟩, ⟨hRQ⟩, ⟨Only.refl _ _⟩⟩
    case round =>
      obtain ⟨j, c, rfl, hc, ⟨hc0, hc1⟩, HO, HR, HW⟩ := hrel
      by_cases hlt : 0 < c
      · have hown := HO.out
        have hR := HR.out
        have hW := HW.out
        clear HO HR HW
        have hj : j < q.length := by omega
        have hjt : (q.take j).length = j := by rw [List.length_take]; omega
        obtain ⟨x, hx1, hx2⟩ : ∃ x, q.drop j = x :: q.drop (j + 1) ∧ q.take j ++ [x] = q.take (j + 1) := ⟨_, drop_cons q j hj, take_snoc q j hj⟩
        have hP := popq_some wr hR _ _ hx1
        have hfar := own_far hown l0 l1
        go_wp2_with (first
          | (go_at_call 13; refine hP.mono ?_; rintro e w4 ⟨rfl, hR4, hO4⟩; have hW4 := hW.then hO4; have hown4 := hO4.own hown hfar; clear hR hW hown hO4 hP hfar)
          | (at_builtin; refine print_append_of (w0 := w4) ei w.heap.size rfl (.tmp 23) (.tmp 25) 22 3 (.int .i64 0) 8 rfl Try.underlying22 (by kernel_rfl) rfl (by decide) _ (q.take j) x rfl rfl rfl hown4 (Below.refl _ _) hW4.size (by omega) ?_; intro v5 w5 hown5 hB5 hg5 hat5; have hR5 := hR4.base hB5 l0 l1; have hW5 := hW4.base hB5; clear hR4 hW4 hown4 hg5 hat5; rw [hx2] at hown5))
        go_roundw
        case rel => exact ⟨j + 1, c - 1, by go_num, by omega, ⟨by omega, by omega⟩, ⟨hown5⟩, ⟨hR5⟩, ⟨hW5⟩⟩
        case measure => simp [intOf]; omega
      · go_wp2_with fail
        go_ret
        exact ⟨_, rfl, Taken.of (by omega) HO.out HR.out HW.out⟩
set_option maxHeartbeats 2000000 in
set_option maxRecDepth 100000 in
theorem same_calls (w : World) (A B : Option Addr) (c d : Nat) (l : List Int) (hA : ReadsOf ei 0 w A l.length l) (hB : ReadsOf ei 0 w B l.length l) : Calls Try.prog 15 #[.slice A l.length c, .slice B l.length d] w fun e w' => e = .returned (.bool true) ∧ Drawn0 w w' := by
  have hu3 := Try.underlying3
  have hmx := hA.2.1
  go_enter Try.func15, Try.ntmps15
  go_wp2_with fail
  go_loopw [5] (fun i wr => ∃ k : Nat, k ≤ l.length ∧ i = .int .i64 k ∧ Aside0 (Drawn0 w wr)) (fun i _ => l.length - (intOf i).toNat)
  case atStart => exact ⟨0, Nat.zero_le _, rfl, ⟨Drawn0.refl _⟩⟩
  case round =>
    obtain ⟨k, hk, rfl, HD⟩ := hrel
    by_cases hlt : k < l.length
    · have hD := HD.out
      obtain ⟨ad, eA, hx⟩ := hA.2.2 (by omega)
      obtain ⟨bd, eB, hy⟩ := hB.2.2 (by omega)
      subst eA eB
      have hx := dcell hD (hx k hlt)
      have hy := dcell hD (hy k hlt)
      have hk2 : (k : Int) < (l.length : Int) := Int.ofNat_lt.mpr hlt
      have hk0 : (0 : Int) ≤ k := Int.natCast_nonneg k
      clear HD
      go_wp2_with fail
      refine start_ (n := 9) (S := fun w' => w'.cell? (ad.add k) = some (.int .i64 (l.getD k 0)) ∧ w'.cell? (bd.add k) = some (.int .i64 (l.getD k 0))) (ds := []) #[false, false, false, false, false, false, false, false, false] (by kernel_rfl) rfl rfl ⟨hx, hy⟩ (fun hHeld => ?_)
      refine pure_ (i := 0) (N := some 17) (v := ?_) (a' := ?_) #[true, false, false, false, false, false, false, false, false] rfl rfl (by kernel_rfl) (fun _ _ _ h => h) (Or.inl ⟨by rfl, ?_⟩) ?_ ?_
      rotate_left
      · intro w'
        go_simp
        with_reducible rfl
      rotate_left
      · simp only [Act.put, List.setIfInBounds_toArray, List.set_cons_zero, List.set_cons_succ, i64_w, i32_w]
        rfl
      refine pure_ (i := 1) (N := some 18) (v := ?_) (a' := ?_) #[true, true, false, false, false, false, false, false, false] rfl rfl (by kernel_rfl) (fun _ _ _ h => h) (Or.inl ⟨by rfl, ?_⟩) ?_ ?_
      rotate_left
      · intro w'
        go_simp
        with_reducible rfl
      rotate_left
      · simp only [Act.put, List.setIfInBounds_toArray, List.set_cons_zero, List.set_cons_succ, i64_w, i32_w]
        rfl
      refine pure_ (i := 2) (N := some 19) (v := ?_) (a' := ?_) #[true, true, true, false, false, false, false, false, false] rfl rfl (by kernel_rfl) (fun _ _ _ h => h) (Or.inl ⟨by rfl, ?_⟩) ?_ ?_
      rotate_left
      · intro w'
        go_simp
        with_reducible rfl
      rotate_left
      · simp only [Act.put, List.setIfInBounds_toArray, List.set_cons_zero, List.set_cons_succ, i64_w, i32_w]
        rfl
      refine pure_ (i := 4) (N := some 21) (v := ?_) (a' := ?_) #[true, true, true, false, true, false, false, false, false] rfl rfl (by kernel_rfl) (fun _ _ _ h => h) (Or.inl ⟨by rfl, ?_⟩) ?_ ?_
      rotate_left
      · intro w'
        go_simp
        with_reducible rfl
      rotate_left
      · simp only [Act.put, List.setIfInBounds_toArray, List.set_cons_zero, List.set_cons_succ, i64_w, i32_w]
        rfl
      refine pure_ (i := 5) (N := some 22) (v := ?_) (a' := ?_) #[true, true, true, false, true, true, false, false, false] rfl rfl (by kernel_rfl) (fun _ _ _ h => h) (Or.inl ⟨by rfl, ?_⟩) ?_ ?_
      rotate_left
      · intro w'
        go_simp
        with_reducible rfl
      rotate_left
      · simp only [Act.put, List.setIfInBounds_toArray, List.set_cons_zero, List.set_cons_succ, i64_w, i32_w]
        rfl
      refine pure_ (i := 6) (N := some 23) (v := ?_) (a' := ?_) #[true, true, true, false, true, true, true, false, false] rfl rfl (by kernel_rfl) (fun _ _ _ h => h) (Or.inl ⟨by rfl, ?_⟩) ?_ ?_
      rotate_left
      · intro w'
        go_simp
        with_reducible rfl
      rotate_left
      · simp only [Act.put, List.setIfInBounds_toArray, List.set_cons_zero, List.set_cons_succ, i64_w, i32_w]
        rfl
      refine take_ (i := 3) (N := some 20) (v := ?_) (a' := ?_) #[true, true, true, true, true, true, true, false, false] rfl rfl (by kernel_rfl) (fun _ _ _ h => h) (Or.inl ⟨by rfl, ?_⟩) hHeld ?_ ?_
      rotate_left
      · rintro w' ⟨s0, s1⟩
        go_simp
        with_reducible rfl
      rotate_left
      · simp only [Act.put, List.setIfInBounds_toArray, List.set_cons_zero, List.set_cons_succ, i64_w, i32_w]
        rfl
      refine take_ (i := 7) (N := some 24) (v := ?_) (a' := ?_) #[true, true, true, true, true, true, true, true, false] rfl rfl (by kernel_rfl) (fun _ _ _ h => h) (Or.inl ⟨by rfl, ?_⟩) hHeld ?_ ?_
      rotate_left
      · rintro w' ⟨s0, s1⟩
        go_simp
        with_reducible rfl
      rotate_left
      · simp only [Act.put, List.setIfInBounds_toArray, List.set_cons_zero, List.set_cons_succ, i64_w, i32_w]
        rfl
      refine pure_ (i := 8) (N := some 25) (v := ?_) (a' := ?_) #[true, true, true, true, true, true, true, true, true] rfl rfl (by kernel_rfl) (fun _ _ _ h => h) (Or.inl ⟨by rfl, ?_⟩) ?_ ?_
      rotate_left
      · intro w'
        go_simp
        with_reducible rfl
      rotate_left
      · simp only [Act.put, List.setIfInBounds_toArray, List.set_cons_zero, List.set_cons_succ, i64_w, i32_w]
        rfl
      refine done_ (by kernel_rfl) ?_

      go_wp2
      go_roundw
      case rel => exact ⟨k + 1, by omega, by go_num, ⟨drawn_drew hD⟩⟩
      case measure => simp [intOf]; omega
    · have hke : k = l.length := by omega
      subst hke
      go_wp2_with fail
      go_ret
      exact ⟨rfl, HD.out⟩
end Go.Proofs.Ytjajaklichiknaa.Rg
