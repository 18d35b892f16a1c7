/- Proved: the walk of step: whatever is done, both answer alike. -/
import Derived.Test.YtjajaklichiknaaPs2
namespace Go.Proofs.Ytjajaklichiknaa.Rg
open Go.RowKit Go.Proofs.YtjajaklichiknaaW.PrintWords Go.Proofs.YtjajaklichiknaaW.PrintLast Go.Proofs.YtjajaklichiknaaW.PrintMore
set_option linter.unusedVariables false
set_option linter.unusedSimpArgs false

theorem Step.mono {w0 w : World} {p M N : Nat} (h : Step w0 w p M) (hM : M ≤ N) : Step w0 w p N := by
  obtain ⟨g0, g1, d0, d1, Z0, Z1, vt, vw, m, lt, lw, hm, h⟩ := h
  exact ⟨g0, g1, d0, d1, Z0, Z1, vt, vw, m, lt, lw, Nat.le_trans hm hM, h⟩
theorem Pq.rw_new {w0 w w' : World} {p g0 g1 d0 d1 mt mw b : Nat} {Z0 Z1 : Nat → Prop} {vt vw v : Value} {lt lw : List Value} {l : List Int} (h : Pq w0 w p g0 g1 d0 d1 Z0 Z1 vt vw mt mw lt lw) (ho : w'.ownsRow b 3 1 v l.length (encs ei l)) (hb : w.heap.size ≤ b) : Rw w' w0.heap.size (Fr Z0 Z1 p) v l := by
  refine ⟨own_weak ho (Nat.le_trans h.bel.size hb), fun k hk => ?_⟩
  have h1 := (own_lt' ho k hk).1
  exact ⟨fun e => by have := (h.p0.lt k e).2; omega, fun e => by have := (h.p1.lt k e).2; omega, fun e => by have := blk_lt h.cp; omega⟩
theorem own_l {w : World} {b n s : Nat} {e : TypeId} {v : Value} {xs : List Value} (h : w.ownsRow b e s v xs.length xs) (hn : xs.length = n) : w.ownsRow b e s v n xs := hn ▸ h
theorem blk_cell_below {w w' : World} {a : Addr} {v : Value} (hb : Below w.heap.size w w') (h : w.cell? a = some v) : w'.cell? a = some v := (Only.of_below hb (fun _ => False)).cell id h
set_option maxHeartbeats 16000000 in
set_option maxRecDepth 100000 in
theorem step_0_1 {w0 w : World} {p g0 g1 d0 d1 : Nat} {Z0 Z1 : Nat → Prop} {vt vw : Value} {m : Nat} {lt lw : List Value} (h : Pq w0 w p g0 g1 d0 d1 Z0 Z1 vt vw m m lt lw) (hm : (m + 1) * 24 ≤ 140737488355328) (at_ nn : Int) (hat : (Int.tmod at_ 2 != 0) = false) (hn0 : -9223372036854775808 ≤ nn) (hn1 : nn ≤ 9223372036854775807) : Calls Try.prog 24 #[.pointer (some ⟨p, 0, none⟩), .agg #[.int .i64 1, .int .i64 at_, .int .i64 nn]] w fun r w' => r = .returned (.bool true) ∧ Step w0 w' p (m + 1) := by
  have hu3 := Try.underlying3
  have hu22 := Try.underlying22
  have hu24 := Try.underlying24
  have hu51 := Try.underlying51
  have hu52 := Try.underlying52
  have hu53 := Try.underlying53
  have hu54 := Try.underlying54
  have hu55 := Try.underlying55
  have hu57 := Try.underlying57
  have hu61 := Try.underlying61
  have hu65 := Try.underlying65
  have hu73 := Try.underlying73
  have hu4 := Try.underlying4
  have HP := Aside0.mk h
  have HM := Aside0.mk hm
  have HN := Aside0.mk (And.intro hn0 hn1)
  clear h hm hn0 hn1
  go_enter Try.func24, Try.ntmps24
  go_upto_region 1 with fail
  have hbo := al_bel w (.cells #[.int .i64 1, .int .i64 at_, .int .i64 nn] 61)
  have hco := al_at w (.cells #[.int .i64 1, .int .i64 at_, .int .i64 nn] 61)
  obtain ⟨wb, hwb⟩ : ∃ wb, w.alloc (.cells #[.int .i64 1, .int .i64 at_, .int .i64 nn] 61) = wb := ⟨_, rfl⟩
  rw [hwb] at hbo hco ⊢
  clear hwb
  have HP1 := Aside0.mk (HP.out.below hbo)
  have HNB : Aside0 (¬ Z0 w.heap.size ∧ ¬ Z1 w.heap.size ∧ w.heap.size ≠ p) := ⟨fun e => Nat.lt_irrefl _ (HP.out.p0.lt _ e).2, fun e => Nat.lt_irrefl _ (HP.out.p1.lt _ e).2, fun e => Nat.lt_irrefl _ (e ▸ blk_lt HP.out.cp)⟩
  obtain ⟨bo, ebo⟩ : ∃ bo, w.heap.size = bo := ⟨_, rfl⟩
  rw [ebo] at hco HNB ⊢
  have HNZ : Aside0 (¬ Z0 bo) := ⟨HNB.out.1⟩
  have co0 := blk_cell hco 0
  have co1 := blk_cell hco 1
  have co2 := blk_cell hco 2
  have cpr := blk_cell HP1.out.cp 0
  have cpd := blk_cell HP1.out.cp 2
  simp only [List.getElem?_toArray, List.getElem?_cons_zero, List.getElem?_cons_succ] at co0 co1 co2 cpr cpd
  clear hbo hco ebo HP
  go_wp2_with (go_at_call 23; refine (begin_pq0 nn HP1.out).mono ?_; rintro e u1 ⟨rfl, hs⟩; have HS := Aside0.mk hs; clear hs)
  go_ret
  exact ⟨rfl, HS.out.mono (Nat.le_succ _)⟩
set_option maxHeartbeats 16000000 in
set_option maxRecDepth 100000 in
theorem step_0_2 {w0 w : World} {p g0 g1 d0 d1 : Nat} {Z0 Z1 : Nat → Prop} {vt vw : Value} {m : Nat} {lt lw : List Value} (h : Pq w0 w p g0 g1 d0 d1 Z0 Z1 vt vw m m lt lw) (hm : (m + 1) * 24 ≤ 140737488355328) (at_ nn : Int) (hat : (Int.tmod at_ 2 != 0) = false) (hn0 : -9223372036854775808 ≤ nn) (hn1 : nn ≤ 9223372036854775807) : Calls Try.prog 24 #[.pointer (some ⟨p, 0, none⟩), .agg #[.int .i64 2, .int .i64 at_, .int .i64 nn]] w fun r w' => r = .returned (.bool true) ∧ Step w0 w' p (m + 1) := by
  have hu3 := Try.underlying3
  have hu22 := Try.underlying22
  have hu24 := Try.underlying24
  have hu51 := Try.underlying51
  have hu52 := Try.underlying52
  have hu53 := Try.underlying53
  have hu54 := Try.underlying54
  have hu55 := Try.underlying55
  have hu57 := Try.underlying57
  have hu61 := Try.underlying61
  have hu65 := Try.underlying65
  have hu73 := Try.underlying73
  have hu4 := Try.underlying4
  have HP := Aside0.mk h
  have HM := Aside0.mk hm
  have HN := Aside0.mk (And.intro hn0 hn1)
  clear h hm hn0 hn1
  go_enter Try.func24, Try.ntmps24
  go_upto_region 1 with fail
  have hbo := al_bel w (.cells #[.int .i64 2, .int .i64 at_, .int .i64 nn] 61)
  have hco := al_at w (.cells #[.int .i64 2, .int .i64 at_, .int .i64 nn] 61)
  obtain ⟨wb, hwb⟩ : ∃ wb, w.alloc (.cells #[.int .i64 2, .int .i64 at_, .int .i64 nn] 61) = wb := ⟨_, rfl⟩
  rw [hwb] at hbo hco ⊢
  clear hwb
  have HP1 := Aside0.mk (HP.out.below hbo)
  have HNB : Aside0 (¬ Z0 w.heap.size ∧ ¬ Z1 w.heap.size ∧ w.heap.size ≠ p) := ⟨fun e => Nat.lt_irrefl _ (HP.out.p0.lt _ e).2, fun e => Nat.lt_irrefl _ (HP.out.p1.lt _ e).2, fun e => Nat.lt_irrefl _ (e ▸ blk_lt HP.out.cp)⟩
  obtain ⟨bo, ebo⟩ : ∃ bo, w.heap.size = bo := ⟨_, rfl⟩
  rw [ebo] at hco HNB ⊢
  have HNZ : Aside0 (¬ Z0 bo) := ⟨HNB.out.1⟩
  have co0 := blk_cell hco 0
  have co1 := blk_cell hco 1
  have co2 := blk_cell hco 2
  have cpr := blk_cell HP1.out.cp 0
  have cpd := blk_cell HP1.out.cp 2
  simp only [List.getElem?_toArray, List.getElem?_cons_zero, List.getElem?_cons_succ] at co0 co1 co2 cpr cpd
  clear hbo hco ebo HP
  have HP2 := Aside0.mk (HP1.out.below (drew_bel wb))
  obtain ⟨f, M, hT⟩ := two_push nn HP2.out.p0
  have HT := Aside0.mk hT
  clear hT
  go_upto_region 10 with fail
  clear co0 co1 cpr cpd
  refine start_ (n := 12) (S := fun w' => w'.cell? ⟨bo, 2, none⟩ = some (.int .i64 nn)) (ds := []) #[false, false, false, false, false, false, false, false, false, false, false, false] (by kernel_rfl) rfl rfl (co2) (fun hHeld => ?_)
  refine pure_ (i := 0) (N := some 46) (v := ?_) (a' := ?_) #[true, false, false, false, false, false, false, false, false, false, false, false] rfl rfl (by kernel_rfl) (fun _ _ _ h => h) (Or.inl ⟨by rfl, ?_⟩) ?_ ?_
  rotate_left
  · intro w'
    go_simp
    with_reducible rfl
  rotate_left
  · simp only [Act.put, List.setIfInBounds_toArray, List.set_cons_zero, List.set_cons_succ, i64_w, i32_w]
    rfl
  refine pure_ (i := 1) (N := some 47) (v := ?_) (a' := ?_) #[true, true, false, false, false, false, false, false, false, false, false, false] rfl rfl (by kernel_rfl) (fun _ _ _ h => h) (Or.inl ⟨by rfl, ?_⟩) ?_ ?_
  rotate_left
  · intro w'
    go_simp
    with_reducible rfl
  rotate_left
  · simp only [Act.put, List.setIfInBounds_toArray, List.set_cons_zero, List.set_cons_succ, i64_w, i32_w]
    rfl
  refine pure_ (i := 5) (N := some 51) (v := ?_) (a' := ?_) #[true, true, false, false, false, true, false, false, false, false, false, false] rfl rfl (by kernel_rfl) (fun _ _ _ h => h) (Or.inl ⟨by rfl, ?_⟩) ?_ ?_
  rotate_left
  · intro w'
    go_simp
    with_reducible rfl
  rotate_left
  · simp only [Act.put, List.setIfInBounds_toArray, List.set_cons_zero, List.set_cons_succ, i64_w, i32_w]
    rfl
  refine pure_ (i := 6) (N := some 52) (v := ?_) (a' := ?_) #[true, true, false, false, false, true, true, false, false, false, false, false] rfl rfl (by kernel_rfl) (fun _ _ _ h => h) (Or.inl ⟨by rfl, ?_⟩) ?_ ?_
  rotate_left
  · intro w'
    go_simp
    with_reducible rfl
  rotate_left
  · simp only [Act.put, List.setIfInBounds_toArray, List.set_cons_zero, List.set_cons_succ, i64_w, i32_w]
    rfl
  refine take_ (i := 2) (N := some 48) (v := ?_) (a' := ?_) #[true, true, true, false, false, true, true, false, false, false, false, false] rfl rfl (by kernel_rfl) (fun _ _ _ h => h) (Or.inl ⟨by rfl, ?_⟩) hHeld ?_ ?_
  rotate_left
  · intro w' s0
    go_simp
    with_reducible rfl
  rotate_left
  · simp only [Act.put, List.setIfInBounds_toArray, List.set_cons_zero, List.set_cons_succ, i64_w, i32_w]
    rfl
  refine take_ (i := 7) (N := some 53) (v := ?_) (a' := ?_) #[true, true, true, false, false, true, true, true, false, false, false, false] rfl rfl (by kernel_rfl) (fun _ _ _ h => h) (Or.inl ⟨by rfl, ?_⟩) hHeld ?_ ?_
  rotate_left
  · intro w' s0
    go_simp
    with_reducible rfl
  rotate_left
  · simp only [Act.put, List.setIfInBounds_toArray, List.set_cons_zero, List.set_cons_succ, i64_w, i32_w]
    rfl
  refine one_ (i := 3) (N := some 49) #[true, true, true, true, false, true, true, true, false, false, false, false] rfl rfl (by kernel_rfl) (by decide) (fun K hK => ?_)
  refine goes_ Try.func11 (by kernel_rfl) rfl _ (by rfl) rfl rfl (by simp only [List.map_toArray, List.map_cons, List.map_nil]; rfl) ?_
  refine (HT.out.a).mono ?_
  rintro e u1 ⟨rfl, hm1⟩
  refine ⟨_, rfl, ?_⟩
  have HM1 := Aside0.mk hm1
  clear hm1
  refine hK.out _ _ (((HT.out.only _ HM1.out).cell HNZ.out co2)) (fun hHeld => ?_)
  clear hK K
  refine norm_ (a' := ?_) ?_ ?_
  rotate_left
  · show Act.put _ (some 49) _ = _
    simp only [Act.put, List.setIfInBounds_toArray, List.set_cons_zero, List.set_cons_succ, i64_w, i32_w]
    rfl
  refine one_ (i := 4) (N := some 50) #[true, true, true, true, true, true, true, true, false, false, false, false] rfl rfl (by kernel_rfl) (by decide) (fun K hK => ?_)
  refine goes_ Try.func10 (by kernel_rfl) rfl _ (by rfl) rfl rfl (by simp only [List.map_toArray, List.map_cons, List.map_nil]; rfl) ?_
  refine (num_calls _ _).mono ?_
  rintro e u2 ⟨rfl, hd2⟩
  refine ⟨_, rfl, ?_⟩
  have HM2 := Aside0.mk (HT.out.drawn _ _ HM1.out hd2)
  clear hd2
  refine hK.out _ _ (((HT.out.only _ HM2.out).cell HNZ.out co2)) (fun hHeld => ?_)
  clear hK K
  refine norm_ (a' := ?_) ?_ ?_
  rotate_left
  · show Act.put _ (some 50) _ = _
    simp only [Act.put, List.setIfInBounds_toArray, List.set_cons_zero, List.set_cons_succ, i64_w, i32_w]
    rfl
  refine one_ (i := 8) (N := some 54) #[true, true, true, true, true, true, true, true, true, false, false, false] rfl rfl (by kernel_rfl) (by decide) (fun K hK => ?_)
  refine goes_ Try.func31 (by kernel_rfl) rfl _ (by rfl) rfl rfl (by simp only [List.map_toArray, List.map_cons, List.map_nil]; rfl) ?_
  refine (HT.out.d _ HM2.out).mono ?_
  rintro e u3 ⟨rfl, Z9, hp3, hn3⟩
  refine ⟨_, rfl, ?_⟩
  have HP3 := Aside0.mk (HP2.out.ring0 hp3 hn3)
  have HN3 := Aside0.mk hn3
  clear hp3 hn3
  refine hK.out _ _ ((HN3.out.only.cell HNZ.out co2)) (fun hHeld => ?_)
  clear hK K
  refine norm_ (a' := ?_) ?_ ?_
  rotate_left
  · show Act.put _ (some 54) _ = _
    simp only [Act.put, List.setIfInBounds_toArray, List.set_cons_zero, List.set_cons_succ, i64_w, i32_w]
    rfl
  refine one_ (i := 9) (N := some 55) #[true, true, true, true, true, true, true, true, true, true, false, false] rfl rfl (by kernel_rfl) (by decide) (fun K hK => ?_)
  refine goes_ Try.func10 (by kernel_rfl) rfl _ (by rfl) rfl rfl (by simp only [List.map_toArray, List.map_cons, List.map_nil]; rfl) ?_
  refine (num_calls _ _).mono ?_
  rintro e u4 ⟨rfl, hd4⟩
  refine ⟨_, rfl, ?_⟩
  have HD4 := Aside0.mk hd4.below
  clear hd4
  refine hK.out _ _ ((blk_cell_below HD4.out hHeld)) (fun hHeld => ?_)
  clear hK K
  refine norm_ (a' := ?_) ?_ ?_
  rotate_left
  · show Act.put _ (some 55) _ = _
    simp only [Act.put, List.setIfInBounds_toArray, List.set_cons_zero, List.set_cons_succ, i64_w, i32_w]
    rfl
  refine pure_ (i := 10) (N := some 56) (v := ?_) (a' := ?_) #[true, true, true, true, true, true, true, true, true, true, true, false] rfl rfl (by kernel_rfl) (fun _ _ _ h => h) (Or.inl ⟨by rfl, ?_⟩) ?_ ?_
  rotate_left
  · intro w'
    go_simp
    with_reducible rfl
  rotate_left
  · simp only [Act.put, List.setIfInBounds_toArray, List.set_cons_zero, List.set_cons_succ, i64_w, i32_w]
    rfl
  refine pure_ (i := 11) (N := some 4) (v := ?_) (a' := ?_) #[true, true, true, true, true, true, true, true, true, true, true, true] rfl rfl (by kernel_rfl) (fun _ _ _ h => h) (Or.inl ⟨by rfl, ?_⟩) ?_ ?_
  rotate_left
  · intro w'
    go_simp
    with_reducible rfl
  rotate_left
  · simp only [Act.put, List.setIfInBounds_toArray, List.set_cons_zero, List.set_cons_succ, i64_w, i32_w]
    rfl
  refine done_ (by kernel_rfl) ?_
  clear hHeld co2
  go_wp2_with fail
  go_ret
  exact ⟨rfl, ((HP3.out.below HD4.out).step (Nat.le_refl _)).mono (Nat.le_succ _)⟩
set_option maxHeartbeats 16000000 in
set_option maxRecDepth 100000 in
theorem step_0_3 {w0 w : World} {p g0 g1 d0 d1 : Nat} {Z0 Z1 : Nat → Prop} {vt vw : Value} {m : Nat} {lt lw : List Value} (h : Pq w0 w p g0 g1 d0 d1 Z0 Z1 vt vw m m lt lw) (hm : (m + 1) * 24 ≤ 140737488355328) (at_ nn : Int) (hat : (Int.tmod at_ 2 != 0) = false) (hn0 : -9223372036854775808 ≤ nn) (hn1 : nn ≤ 9223372036854775807) : Calls Try.prog 24 #[.pointer (some ⟨p, 0, none⟩), .agg #[.int .i64 3, .int .i64 at_, .int .i64 nn]] w fun r w' => r = .returned (.bool true) ∧ Step w0 w' p (m + 1) := by
  have hu3 := Try.underlying3
  have hu22 := Try.underlying22
  have hu24 := Try.underlying24
  have hu51 := Try.underlying51
  have hu52 := Try.underlying52
  have hu53 := Try.underlying53
  have hu54 := Try.underlying54
  have hu55 := Try.underlying55
  have hu57 := Try.underlying57
  have hu61 := Try.underlying61
  have hu65 := Try.underlying65
  have hu73 := Try.underlying73
  have hu4 := Try.underlying4
  have HP := Aside0.mk h
  have HM := Aside0.mk hm
  have HN := Aside0.mk (And.intro hn0 hn1)
  clear h hm hn0 hn1
  go_enter Try.func24, Try.ntmps24
  go_upto_region 1 with fail
  have hbo := al_bel w (.cells #[.int .i64 3, .int .i64 at_, .int .i64 nn] 61)
  have hco := al_at w (.cells #[.int .i64 3, .int .i64 at_, .int .i64 nn] 61)
  obtain ⟨wb, hwb⟩ : ∃ wb, w.alloc (.cells #[.int .i64 3, .int .i64 at_, .int .i64 nn] 61) = wb := ⟨_, rfl⟩
  rw [hwb] at hbo hco ⊢
  clear hwb
  have HP1 := Aside0.mk (HP.out.below hbo)
  have HNB : Aside0 (¬ Z0 w.heap.size ∧ ¬ Z1 w.heap.size ∧ w.heap.size ≠ p) := ⟨fun e => Nat.lt_irrefl _ (HP.out.p0.lt _ e).2, fun e => Nat.lt_irrefl _ (HP.out.p1.lt _ e).2, fun e => Nat.lt_irrefl _ (e ▸ blk_lt HP.out.cp)⟩
  obtain ⟨bo, ebo⟩ : ∃ bo, w.heap.size = bo := ⟨_, rfl⟩
  rw [ebo] at hco HNB ⊢
  have HNZ : Aside0 (¬ Z0 bo) := ⟨HNB.out.1⟩
  have co0 := blk_cell hco 0
  have co1 := blk_cell hco 1
  have co2 := blk_cell hco 2
  have cpr := blk_cell HP1.out.cp 0
  have cpd := blk_cell HP1.out.cp 2
  simp only [List.getElem?_toArray, List.getElem?_cons_zero, List.getElem?_cons_succ] at co0 co1 co2 cpr cpd
  clear hbo hco ebo HP
  obtain ⟨x, b, M, hT⟩ := two_pop HP1.out.p0
  have HT := Aside0.mk hT
  clear hT
  go_wp2_with (first
    | (go_at_call 13; refine (HT.out.a).mono ?_; rintro e u1 ⟨rfl, hm1⟩; have HM1 := Aside0.mk hm1; have co2b := ((HT.out.only _ hm1).cell (a := ⟨bo, 2, none⟩) HNZ.out co2); clear hm1)
    | (go_at_call 32; refine (HT.out.d _ HM1.out).mono ?_; rintro e u2 ⟨rfl, Z9, hp3, hn3⟩; have HP3 := Aside0.mk (HP1.out.ring0 hp3 hn3); clear hp3 hn3))
  go_ret
  exact ⟨rfl, (HP3.out.step (Nat.le_refl _)).mono (Nat.le_succ _)⟩
set_option maxHeartbeats 16000000 in
set_option maxRecDepth 100000 in
theorem step_0_4 {w0 w : World} {p g0 g1 d0 d1 : Nat} {Z0 Z1 : Nat → Prop} {vt vw : Value} {m : Nat} {lt lw : List Value} (h : Pq w0 w p g0 g1 d0 d1 Z0 Z1 vt vw m m lt lw) (hm : (m + 1) * 24 ≤ 140737488355328) (at_ nn : Int) (hat : (Int.tmod at_ 2 != 0) = false) (hn0 : -9223372036854775808 ≤ nn) (hn1 : nn ≤ 9223372036854775807) : Calls Try.prog 24 #[.pointer (some ⟨p, 0, none⟩), .agg #[.int .i64 4, .int .i64 at_, .int .i64 nn]] w fun r w' => r = .returned (.bool true) ∧ Step w0 w' p (m + 1) := by
  have hu3 := Try.underlying3
  have hu22 := Try.underlying22
  have hu24 := Try.underlying24
  have hu51 := Try.underlying51
  have hu52 := Try.underlying52
  have hu53 := Try.underlying53
  have hu54 := Try.underlying54
  have hu55 := Try.underlying55
  have hu57 := Try.underlying57
  have hu61 := Try.underlying61
  have hu65 := Try.underlying65
  have hu73 := Try.underlying73
  have hu4 := Try.underlying4
  have HP := Aside0.mk h
  have HM := Aside0.mk hm
  have HN := Aside0.mk (And.intro hn0 hn1)
  clear h hm hn0 hn1
  go_enter Try.func24, Try.ntmps24
  go_upto_region 1 with fail
  have hbo := al_bel w (.cells #[.int .i64 4, .int .i64 at_, .int .i64 nn] 61)
  have hco := al_at w (.cells #[.int .i64 4, .int .i64 at_, .int .i64 nn] 61)
  obtain ⟨wb, hwb⟩ : ∃ wb, w.alloc (.cells #[.int .i64 4, .int .i64 at_, .int .i64 nn] 61) = wb := ⟨_, rfl⟩
  rw [hwb] at hbo hco ⊢
  clear hwb
  have HP1 := Aside0.mk (HP.out.below hbo)
  have HNB : Aside0 (¬ Z0 w.heap.size ∧ ¬ Z1 w.heap.size ∧ w.heap.size ≠ p) := ⟨fun e => Nat.lt_irrefl _ (HP.out.p0.lt _ e).2, fun e => Nat.lt_irrefl _ (HP.out.p1.lt _ e).2, fun e => Nat.lt_irrefl _ (e ▸ blk_lt HP.out.cp)⟩
  obtain ⟨bo, ebo⟩ : ∃ bo, w.heap.size = bo := ⟨_, rfl⟩
  rw [ebo] at hco HNB ⊢
  have HNZ : Aside0 (¬ Z0 bo) := ⟨HNB.out.1⟩
  have co0 := blk_cell hco 0
  have co1 := blk_cell hco 1
  have co2 := blk_cell hco 2
  have cpr := blk_cell HP1.out.cp 0
  have cpd := blk_cell HP1.out.cp 2
  simp only [List.getElem?_toArray, List.getElem?_cons_zero, List.getElem?_cons_succ] at co0 co1 co2 cpr cpd
  clear hbo hco ebo HP
  obtain ⟨x, b, M, hT⟩ := two_at nn HP1.out.p0
  have HT := Aside0.mk hT
  clear hT
  go_wp2_with (first
    | (go_at_call 21; refine (HT.out.a).mono ?_; rintro e u1 ⟨rfl, hm1⟩; have HM1 := Aside0.mk hm1; have co2b := ((HT.out.only _ hm1).cell (a := ⟨bo, 2, none⟩) HNZ.out co2); clear hm1)
    | (go_at_call 33; refine (HT.out.d _ HM1.out).mono ?_; rintro e u2 ⟨rfl, Z9, hp3, hn3⟩; have HP3 := Aside0.mk (HP1.out.ring0 hp3 hn3); clear hp3 hn3))
  go_ret
  exact ⟨rfl, (HP3.out.step (Nat.le_refl _)).mono (Nat.le_succ _)⟩
set_option maxHeartbeats 16000000 in
set_option maxRecDepth 100000 in
theorem step_0_5 {w0 w : World} {p g0 g1 d0 d1 : Nat} {Z0 Z1 : Nat → Prop} {vt vw : Value} {m : Nat} {lt lw : List Value} (h : Pq w0 w p g0 g1 d0 d1 Z0 Z1 vt vw m m lt lw) (hm : (m + 1) * 24 ≤ 140737488355328) (at_ nn : Int) (hat : (Int.tmod at_ 2 != 0) = false) (hn0 : -9223372036854775808 ≤ nn) (hn1 : nn ≤ 9223372036854775807) : Calls Try.prog 24 #[.pointer (some ⟨p, 0, none⟩), .agg #[.int .i64 5, .int .i64 at_, .int .i64 nn]] w fun r w' => r = .returned (.bool true) ∧ Step w0 w' p (m + 1) := by
  have hu3 := Try.underlying3
  have hu22 := Try.underlying22
  have hu24 := Try.underlying24
  have hu51 := Try.underlying51
  have hu52 := Try.underlying52
  have hu53 := Try.underlying53
  have hu54 := Try.underlying54
  have hu55 := Try.underlying55
  have hu57 := Try.underlying57
  have hu61 := Try.underlying61
  have hu65 := Try.underlying65
  have hu73 := Try.underlying73
  have hu4 := Try.underlying4
  have HP := Aside0.mk h
  have HM := Aside0.mk hm
  have HN := Aside0.mk (And.intro hn0 hn1)
  clear h hm hn0 hn1
  go_enter Try.func24, Try.ntmps24
  go_upto_region 1 with fail
  have hbo := al_bel w (.cells #[.int .i64 5, .int .i64 at_, .int .i64 nn] 61)
  have hco := al_at w (.cells #[.int .i64 5, .int .i64 at_, .int .i64 nn] 61)
  obtain ⟨wb, hwb⟩ : ∃ wb, w.alloc (.cells #[.int .i64 5, .int .i64 at_, .int .i64 nn] 61) = wb := ⟨_, rfl⟩
  rw [hwb] at hbo hco ⊢
  clear hwb
  have HP1 := Aside0.mk (HP.out.below hbo)
  have HNB : Aside0 (¬ Z0 w.heap.size ∧ ¬ Z1 w.heap.size ∧ w.heap.size ≠ p) := ⟨fun e => Nat.lt_irrefl _ (HP.out.p0.lt _ e).2, fun e => Nat.lt_irrefl _ (HP.out.p1.lt _ e).2, fun e => Nat.lt_irrefl _ (e ▸ blk_lt HP.out.cp)⟩
  obtain ⟨bo, ebo⟩ : ∃ bo, w.heap.size = bo := ⟨_, rfl⟩
  rw [ebo] at hco HNB ⊢
  have HNZ : Aside0 (¬ Z0 bo) := ⟨HNB.out.1⟩
  have co0 := blk_cell hco 0
  have co1 := blk_cell hco 1
  have co2 := blk_cell hco 2
  have cpr := blk_cell HP1.out.cp 0
  have cpd := blk_cell HP1.out.cp 2
  simp only [List.getElem?_toArray, List.getElem?_cons_zero, List.getElem?_cons_succ] at co0 co1 co2 cpr cpd
  clear hbo hco ebo HP
  obtain ⟨l, M, hZ, hA, hD⟩ := two_take nn HN.out.1 HN.out.2 HP1.out.p0
  have HZ := Aside0.mk hZ
  have HA := Aside0.mk hA
  have HD := Aside0.mk hD
  clear hZ hA hD
  go_upto_region 22 with (first
    | (go_at_call 12; refine (HA.out).mono ?_; rintro e u1 ⟨v, rfl, ho1, hm1⟩; obtain ⟨A1, c1, rfl⟩ := own_slice ho1; have HM1 := Aside0.mk hm1; have HO1 := Aside0.mk ho1; have co2b := ((HZ.out _ hm1).cell (a := ⟨bo, 2, none⟩) HNZ.out co2); clear hm1 ho1)
    | (go_at_call 34; refine (HD.out _ HM1.out).mono ?_; rintro e u2 ⟨v, rfl, ho2, hO2, hp3⟩; obtain ⟨A2, c2, rfl⟩ := own_slice ho2; have HP3 := Aside0.mk (HP1.out.ring0 hp3 (⟨(HZ.out _ HM1.out).then hO2, fun k e => .inl e⟩ : Nx wb u2 Z0 Z0)); have HO2 := Aside0.mk hO2; have HW2 := Aside0.mk ho2; clear ho2 hO2 hp3))
  clear co0 co1 co2 co2b cpr cpd
  have HR1 : Aside0 (Rw u2 w0.heap.size (Fr Z0 Z1 p) (Value.slice A1 l.length c1) l) := ⟨HP1.out.rw_new (HO2.out.own HO1.out (fun k hk e => Nat.lt_irrefl _ (Nat.lt_of_lt_of_le (HP1.out.p0.lt k e).2 (own_lt' HO1.out k hk).1))) (Nat.le_refl _)⟩
  have HR2 : Aside0 (Rw u2 w0.heap.size (Fr Z0 Z1 p) (Value.slice A2 l.length c2) l) := ⟨HP1.out.rw_new HW2.out (HZ.out _ HM1.out).size⟩
  have HLT : Aside0 (lt.length = m) := ⟨by have := HP3.out.ot.1; omega⟩
  have HLW : Aside0 (lw.length = m) := ⟨by have := HP3.out.ow.1; omega⟩
  clear HO1 HO2 HW2 HM1 HZ HA HD
  have ct0 := blk_cell HP3.out.cp 4
  simp only [List.getElem?_toArray, List.getElem?_cons_zero, List.getElem?_cons_succ] at ct0
  have HHT : Aside0 (u2.ownsRow w0.heap.size 22 1 vt lt.length lt) := ⟨by rw [HLT.out]; exact HP3.out.ot⟩
  have HMT : Aside0 ((lt.length + 1) * 24 ≤ 140737488355328) := ⟨by rw [HLT.out]; exact HM.out⟩
  go_upto_region 23 with (at_builtin; refine print_append (w0 := w0) w0.heap.size rfl (.tmp 115) (.tmp 117) 55 22 (.slice none 0 0) 24 rfl Try.underlying55 (by kernel_rfl) rfl (by decide) vt lt (Value.slice A1 l.length c1) rfl rfl (by rfl) HHT.out HP3.out.bel HP3.out.bel.size HMT.out ?_; intro v3 w3 ho3 hb3 hg3 hat3; have ho3 := own_l (n := m + 1) ho3 (by rw [List.length_append, List.length_singleton, HLT.out]); obtain ⟨A3, c3, rfl⟩ := own_slice ho3; have hp3 : w3.heap[p]? = _ := (hg3.block p (blk_lt HP3.out.cp) (fun e => (HP3.out.ft p e.symm).2.2 rfl)).trans HP3.out.cp; have cq4 := blk_cell hp3 4; have fq4 := blk_frozen hp3 4; simp only [List.getElem?_toArray, List.getElem?_cons_zero, List.getElem?_cons_succ] at cq4; have HO3 := Aside0.mk ho3; have HB3 := Aside0.mk hb3; have HG3 := Aside0.mk hg3; have HA3 := Aside0.mk hat3; clear ho3 hb3 hg3 hat3 hp3)
  have HP4 := Aside0.mk (HP3.out.told (y := (Value.slice A1 l.length c1)) HO3.out HB3.out HG3.out HA3.out)
  have HR3 := Aside0.mk (rw_tp (w0 := w0) HR1.out HP3.out.ot (fun k hk => hk.2.2) (tp_only (p := p) (v1 := .slice A3 (m + 1) c3) (j := 4) HG3.out))
  have HR4 := Aside0.mk (rw_tp (w0 := w0) HR2.out HP3.out.ot (fun k hk => hk.2.2) (tp_only (p := p) (v1 := .slice A3 (m + 1) c3) (j := 4) HG3.out))
  clear ct0 cq4 fq4 HO3 HB3 HG3 HA3 HR1 HR2 HHT HMT
  obtain ⟨w4, hw4⟩ : ∃ w4, w3.setCell ⟨p, 4, none⟩ (.slice A3 (m + 1) c3) = w4 := ⟨_, rfl⟩
  rw [hw4] at HP4 HR3 HR4 ⊢
  clear hw4
  have ct0 := blk_cell HP4.out.cp 5
  simp only [List.getElem?_toArray, List.getElem?_cons_zero, List.getElem?_cons_succ] at ct0
  have HHT : Aside0 (w4.ownsRow w0.heap.size 22 1 vw lw.length lw) := ⟨by rw [HLW.out]; exact HP4.out.ow⟩
  have HMT : Aside0 ((lw.length + 1) * 24 ≤ 140737488355328) := ⟨by rw [HLW.out]; exact HM.out⟩
  go_upto_region 24 with (at_builtin; refine print_append (w0 := w0) w0.heap.size rfl (.tmp 125) (.tmp 127) 55 22 (.slice none 0 0) 24 rfl Try.underlying55 (by kernel_rfl) rfl (by decide) vw lw (Value.slice A2 l.length c2) rfl rfl (by rfl) HHT.out HP4.out.bel HP4.out.bel.size HMT.out ?_; intro v5 w5 ho3 hb3 hg3 hat3; have ho3 := own_l (n := m + 1) ho3 (by rw [List.length_append, List.length_singleton, HLW.out]); obtain ⟨A5, c5, rfl⟩ := own_slice ho3; have hp3 : w5.heap[p]? = _ := (hg3.block p (blk_lt HP4.out.cp) (fun e => (HP4.out.fw p e.symm).2.2 rfl)).trans HP4.out.cp; have cq4 := blk_cell hp3 5; have fq4 := blk_frozen hp3 5; simp only [List.getElem?_toArray, List.getElem?_cons_zero, List.getElem?_cons_succ] at cq4; have HO3 := Aside0.mk ho3; have HB3 := Aside0.mk hb3; have HG3 := Aside0.mk hg3; have HA3 := Aside0.mk hat3; clear ho3 hb3 hg3 hat3 hp3)
  have HP6 := Aside0.mk (HP4.out.want (y := (Value.slice A2 l.length c2)) HO3.out HB3.out HG3.out HA3.out (l := l) (by rw [getD_app' lt _ HLT.out.symm]; exact HR3.out) HR4.out)
  have HR5 := Aside0.mk (rw_tp (w0 := w0) HR3.out HP4.out.ow (fun k hk => hk.2.2) (tp_only (p := p) (v1 := .slice A5 (m + 1) c5) (j := 5) HG3.out))
  have HR6 := Aside0.mk (rw_tp (w0 := w0) HR4.out HP4.out.ow (fun k hk => hk.2.2) (tp_only (p := p) (v1 := .slice A5 (m + 1) c5) (j := 5) HG3.out))
  clear ct0 cq4 fq4 HO3 HB3 HG3 HA3 HR3 HR4 HHT HMT
  obtain ⟨w6, hw6⟩ : ∃ w6, w5.setCell ⟨p, 5, none⟩ (.slice A5 (m + 1) c5) = w6 := ⟨_, rfl⟩
  rw [hw6] at HP6 HR5 HR6 ⊢
  clear hw6
  go_wp2_with (go_at_call 15; refine (same_calls w6 A1 A2 c1 c2 l (own_reads_of' (d := (0 : Int)) HR5.out.own) (own_reads_of' (d := (0 : Int)) HR6.out.own)).mono ?_; rintro e w7 ⟨rfl, hd7⟩; have HD7 := Aside0.mk hd7.below; clear hd7)
  go_ret
  exact ⟨rfl, (HP6.out.below HD7.out).step (Nat.le_refl _)⟩
set_option maxHeartbeats 16000000 in
set_option maxRecDepth 100000 in
theorem step_0_6 {w0 w : World} {p g0 g1 d0 d1 : Nat} {Z0 Z1 : Nat → Prop} {vt vw : Value} {m : Nat} {lt lw : List Value} (h : Pq w0 w p g0 g1 d0 d1 Z0 Z1 vt vw m m lt lw) (hm : (m + 1) * 24 ≤ 140737488355328) (at_ nn : Int) (hat : (Int.tmod at_ 2 != 0) = false) (hn0 : -9223372036854775808 ≤ nn) (hn1 : nn ≤ 9223372036854775807) : Calls Try.prog 24 #[.pointer (some ⟨p, 0, none⟩), .agg #[.int .i64 6, .int .i64 at_, .int .i64 nn]] w fun r w' => r = .returned (.bool true) ∧ Step w0 w' p (m + 1) := by
  have hu3 := Try.underlying3
  have hu22 := Try.underlying22
  have hu24 := Try.underlying24
  have hu51 := Try.underlying51
  have hu52 := Try.underlying52
  have hu53 := Try.underlying53
  have hu54 := Try.underlying54
  have hu55 := Try.underlying55
  have hu57 := Try.underlying57
  have hu61 := Try.underlying61
  have hu65 := Try.underlying65
  have hu73 := Try.underlying73
  have hu4 := Try.underlying4
  have HP := Aside0.mk h
  have HM := Aside0.mk hm
  have HN := Aside0.mk (And.intro hn0 hn1)
  clear h hm hn0 hn1
  go_enter Try.func24, Try.ntmps24
  go_upto_region 1 with fail
  have hbo := al_bel w (.cells #[.int .i64 6, .int .i64 at_, .int .i64 nn] 61)
  have hco := al_at w (.cells #[.int .i64 6, .int .i64 at_, .int .i64 nn] 61)
  obtain ⟨wb, hwb⟩ : ∃ wb, w.alloc (.cells #[.int .i64 6, .int .i64 at_, .int .i64 nn] 61) = wb := ⟨_, rfl⟩
  rw [hwb] at hbo hco ⊢
  clear hwb
  have HP1 := Aside0.mk (HP.out.below hbo)
  have HNB : Aside0 (¬ Z0 w.heap.size ∧ ¬ Z1 w.heap.size ∧ w.heap.size ≠ p) := ⟨fun e => Nat.lt_irrefl _ (HP.out.p0.lt _ e).2, fun e => Nat.lt_irrefl _ (HP.out.p1.lt _ e).2, fun e => Nat.lt_irrefl _ (e ▸ blk_lt HP.out.cp)⟩
  obtain ⟨bo, ebo⟩ : ∃ bo, w.heap.size = bo := ⟨_, rfl⟩
  rw [ebo] at hco HNB ⊢
  have HNZ : Aside0 (¬ Z0 bo) := ⟨HNB.out.1⟩
  have co0 := blk_cell hco 0
  have co1 := blk_cell hco 1
  have co2 := blk_cell hco 2
  have cpr := blk_cell HP1.out.cp 0
  have cpd := blk_cell HP1.out.cp 2
  simp only [List.getElem?_toArray, List.getElem?_cons_zero, List.getElem?_cons_succ] at co0 co1 co2 cpr cpd
  clear hbo hco ebo HP
  go_wp2_with (go_at_call 35; refine (ranged_pair nn HP1.out.p0).mono ?_; rintro e u1 ⟨rfl, Z9, hp3, hn3⟩; have HP3 := Aside0.mk (HP1.out.ring0 hp3 hn3); clear hp3 hn3)
  go_ret
  exact ⟨rfl, (HP3.out.step (Nat.le_refl _)).mono (Nat.le_succ _)⟩
set_option maxHeartbeats 16000000 in
set_option maxRecDepth 100000 in
theorem step_0_0 {w0 w : World} {p g0 g1 d0 d1 : Nat} {Z0 Z1 : Nat → Prop} {vt vw : Value} {m : Nat} {lt lw : List Value} (h : Pq w0 w p g0 g1 d0 d1 Z0 Z1 vt vw m m lt lw) (hm : (m + 1) * 24 ≤ 140737488355328) (kd at_ nn : Int) (hat : (Int.tmod at_ 2 != 0) = false) (hn0 : -9223372036854775808 ≤ nn) (hn1 : nn ≤ 9223372036854775807) (k1 : kd ≠ 1) (k2 : kd ≠ 2) (k3 : kd ≠ 3) (k4 : kd ≠ 4) (k5 : kd ≠ 5) (k6 : kd ≠ 6) : Calls Try.prog 24 #[.pointer (some ⟨p, 0, none⟩), .agg #[.int .i64 kd, .int .i64 at_, .int .i64 nn]] w fun r w' => r = .returned (.bool true) ∧ Step w0 w' p (m + 1) := by
  have hu3 := Try.underlying3
  have hu22 := Try.underlying22
  have hu24 := Try.underlying24
  have hu51 := Try.underlying51
  have hu52 := Try.underlying52
  have hu53 := Try.underlying53
  have hu54 := Try.underlying54
  have hu55 := Try.underlying55
  have hu57 := Try.underlying57
  have hu61 := Try.underlying61
  have hu65 := Try.underlying65
  have hu73 := Try.underlying73
  have hu4 := Try.underlying4
  have e1 : (kd == 1) = false := by simpa using k1
  have e2 : (kd == 2) = false := by simpa using k2
  have e3 : (kd == 3) = false := by simpa using k3
  have e4 : (kd == 4) = false := by simpa using k4
  have e5 : (kd == 5) = false := by simpa using k5
  have e6 : (kd == 6) = false := by simpa using k6
  have HP := Aside0.mk h
  have HM := Aside0.mk hm
  have HN := Aside0.mk (And.intro hn0 hn1)
  clear h hm hn0 hn1
  go_enter Try.func24, Try.ntmps24
  go_upto_region 1 with fail
  have hbo := al_bel w (.cells #[.int .i64 kd, .int .i64 at_, .int .i64 nn] 61)
  have hco := al_at w (.cells #[.int .i64 kd, .int .i64 at_, .int .i64 nn] 61)
  obtain ⟨wb, hwb⟩ : ∃ wb, w.alloc (.cells #[.int .i64 kd, .int .i64 at_, .int .i64 nn] 61) = wb := ⟨_, rfl⟩
  rw [hwb] at hbo hco ⊢
  clear hwb
  have HP1 := Aside0.mk (HP.out.below hbo)
  have HNB : Aside0 (¬ Z0 w.heap.size ∧ ¬ Z1 w.heap.size ∧ w.heap.size ≠ p) := ⟨fun e => Nat.lt_irrefl _ (HP.out.p0.lt _ e).2, fun e => Nat.lt_irrefl _ (HP.out.p1.lt _ e).2, fun e => Nat.lt_irrefl _ (e ▸ blk_lt HP.out.cp)⟩
  obtain ⟨bo, ebo⟩ : ∃ bo, w.heap.size = bo := ⟨_, rfl⟩
  rw [ebo] at hco HNB ⊢
  have HNZ : Aside0 (¬ Z0 bo) := ⟨HNB.out.1⟩
  have co0 := blk_cell hco 0
  have co1 := blk_cell hco 1
  have co2 := blk_cell hco 2
  have cpr := blk_cell HP1.out.cp 0
  have cpd := blk_cell HP1.out.cp 2
  simp only [List.getElem?_toArray, List.getElem?_cons_zero, List.getElem?_cons_succ] at co0 co1 co2 cpr cpd
  clear hbo hco ebo HP
  go_wp2_with fail
  go_ret
  exact ⟨rfl, (HP1.out.step (Nat.le_refl _)).mono (Nat.le_succ _)⟩
set_option maxHeartbeats 16000000 in
set_option maxRecDepth 100000 in
theorem step_1_1 {w0 w : World} {p g0 g1 d0 d1 : Nat} {Z0 Z1 : Nat → Prop} {vt vw : Value} {m : Nat} {lt lw : List Value} (h : Pq w0 w p g0 g1 d0 d1 Z0 Z1 vt vw m m lt lw) (hm : (m + 1) * 24 ≤ 140737488355328) (at_ nn : Int) (hat : (Int.tmod at_ 2 != 0) = true) (hn0 : -9223372036854775808 ≤ nn) (hn1 : nn ≤ 9223372036854775807) : Calls Try.prog 24 #[.pointer (some ⟨p, 0, none⟩), .agg #[.int .i64 1, .int .i64 at_, .int .i64 nn]] w fun r w' => r = .returned (.bool true) ∧ Step w0 w' p (m + 1) := by
  have hu3 := Try.underlying3
  have hu22 := Try.underlying22
  have hu24 := Try.underlying24
  have hu51 := Try.underlying51
  have hu52 := Try.underlying52
  have hu53 := Try.underlying53
  have hu54 := Try.underlying54
  have hu55 := Try.underlying55
  have hu57 := Try.underlying57
  have hu61 := Try.underlying61
  have hu65 := Try.underlying65
  have hu73 := Try.underlying73
  have hu4 := Try.underlying4
  have HP := Aside0.mk h
  have HM := Aside0.mk hm
  have HN := Aside0.mk (And.intro hn0 hn1)
  clear h hm hn0 hn1
  go_enter Try.func24, Try.ntmps24
  go_upto_region 1 with fail
  have hbo := al_bel w (.cells #[.int .i64 1, .int .i64 at_, .int .i64 nn] 61)
  have hco := al_at w (.cells #[.int .i64 1, .int .i64 at_, .int .i64 nn] 61)
  obtain ⟨wb, hwb⟩ : ∃ wb, w.alloc (.cells #[.int .i64 1, .int .i64 at_, .int .i64 nn] 61) = wb := ⟨_, rfl⟩
  rw [hwb] at hbo hco ⊢
  clear hwb
  have HP1 := Aside0.mk (HP.out.below hbo)
  have HNB : Aside0 (¬ Z0 w.heap.size ∧ ¬ Z1 w.heap.size ∧ w.heap.size ≠ p) := ⟨fun e => Nat.lt_irrefl _ (HP.out.p0.lt _ e).2, fun e => Nat.lt_irrefl _ (HP.out.p1.lt _ e).2, fun e => Nat.lt_irrefl _ (e ▸ blk_lt HP.out.cp)⟩
  obtain ⟨bo, ebo⟩ : ∃ bo, w.heap.size = bo := ⟨_, rfl⟩
  rw [ebo] at hco HNB ⊢
  have HNZ : Aside0 (¬ Z1 bo) := ⟨HNB.out.2.1⟩
  have co0 := blk_cell hco 0
  have co1 := blk_cell hco 1
  have co2 := blk_cell hco 2
  have cpr := blk_cell HP1.out.cp 1
  have cpd := blk_cell HP1.out.cp 3
  simp only [List.getElem?_toArray, List.getElem?_cons_zero, List.getElem?_cons_succ] at co0 co1 co2 cpr cpd
  clear hbo hco ebo HP
  go_wp2_with (go_at_call 23; refine (begin_pq1 nn HP1.out).mono ?_; rintro e u1 ⟨rfl, hs⟩; have HS := Aside0.mk hs; clear hs)
  go_ret
  exact ⟨rfl, HS.out.mono (Nat.le_succ _)⟩
set_option maxHeartbeats 16000000 in
set_option maxRecDepth 100000 in
theorem step_1_2 {w0 w : World} {p g0 g1 d0 d1 : Nat} {Z0 Z1 : Nat → Prop} {vt vw : Value} {m : Nat} {lt lw : List Value} (h : Pq w0 w p g0 g1 d0 d1 Z0 Z1 vt vw m m lt lw) (hm : (m + 1) * 24 ≤ 140737488355328) (at_ nn : Int) (hat : (Int.tmod at_ 2 != 0) = true) (hn0 : -9223372036854775808 ≤ nn) (hn1 : nn ≤ 9223372036854775807) : Calls Try.prog 24 #[.pointer (some ⟨p, 0, none⟩), .agg #[.int .i64 2, .int .i64 at_, .int .i64 nn]] w fun r w' => r = .returned (.bool true) ∧ Step w0 w' p (m + 1) := by
  have hu3 := Try.underlying3
  have hu22 := Try.underlying22
  have hu24 := Try.underlying24
  have hu51 := Try.underlying51
  have hu52 := Try.underlying52
  have hu53 := Try.underlying53
  have hu54 := Try.underlying54
  have hu55 := Try.underlying55
  have hu57 := Try.underlying57
  have hu61 := Try.underlying61
  have hu65 := Try.underlying65
  have hu73 := Try.underlying73
  have hu4 := Try.underlying4
  have HP := Aside0.mk h
  have HM := Aside0.mk hm
  have HN := Aside0.mk (And.intro hn0 hn1)
  clear h hm hn0 hn1
  go_enter Try.func24, Try.ntmps24
  go_upto_region 1 with fail
  have hbo := al_bel w (.cells #[.int .i64 2, .int .i64 at_, .int .i64 nn] 61)
  have hco := al_at w (.cells #[.int .i64 2, .int .i64 at_, .int .i64 nn] 61)
  obtain ⟨wb, hwb⟩ : ∃ wb, w.alloc (.cells #[.int .i64 2, .int .i64 at_, .int .i64 nn] 61) = wb := ⟨_, rfl⟩
  rw [hwb] at hbo hco ⊢
  clear hwb
  have HP1 := Aside0.mk (HP.out.below hbo)
  have HNB : Aside0 (¬ Z0 w.heap.size ∧ ¬ Z1 w.heap.size ∧ w.heap.size ≠ p) := ⟨fun e => Nat.lt_irrefl _ (HP.out.p0.lt _ e).2, fun e => Nat.lt_irrefl _ (HP.out.p1.lt _ e).2, fun e => Nat.lt_irrefl _ (e ▸ blk_lt HP.out.cp)⟩
  obtain ⟨bo, ebo⟩ : ∃ bo, w.heap.size = bo := ⟨_, rfl⟩
  rw [ebo] at hco HNB ⊢
  have HNZ : Aside0 (¬ Z1 bo) := ⟨HNB.out.2.1⟩
  have co0 := blk_cell hco 0
  have co1 := blk_cell hco 1
  have co2 := blk_cell hco 2
  have cpr := blk_cell HP1.out.cp 1
  have cpd := blk_cell HP1.out.cp 3
  simp only [List.getElem?_toArray, List.getElem?_cons_zero, List.getElem?_cons_succ] at co0 co1 co2 cpr cpd
  clear hbo hco ebo HP
  have HP2 := Aside0.mk (HP1.out.below (drew_bel wb))
  obtain ⟨f, M, hT⟩ := two_push nn HP2.out.p1
  have HT := Aside0.mk hT
  clear hT
  go_upto_region 10 with fail
  clear co0 co1 cpr cpd
  refine start_ (n := 12) (S := fun w' => w'.cell? ⟨bo, 2, none⟩ = some (.int .i64 nn)) (ds := []) #[false, false, false, false, false, false, false, false, false, false, false, false] (by kernel_rfl) rfl rfl (co2) (fun hHeld => ?_)
  refine pure_ (i := 0) (N := some 46) (v := ?_) (a' := ?_) #[true, false, false, false, false, false, false, false, false, false, false, false] rfl rfl (by kernel_rfl) (fun _ _ _ h => h) (Or.inl ⟨by rfl, ?_⟩) ?_ ?_
  rotate_left
  · intro w'
    go_simp
    with_reducible rfl
  rotate_left
  · simp only [Act.put, List.setIfInBounds_toArray, List.set_cons_zero, List.set_cons_succ, i64_w, i32_w]
    rfl
  refine pure_ (i := 1) (N := some 47) (v := ?_) (a' := ?_) #[true, true, false, false, false, false, false, false, false, false, false, false] rfl rfl (by kernel_rfl) (fun _ _ _ h => h) (Or.inl ⟨by rfl, ?_⟩) ?_ ?_
  rotate_left
  · intro w'
    go_simp
    with_reducible rfl
  rotate_left
  · simp only [Act.put, List.setIfInBounds_toArray, List.set_cons_zero, List.set_cons_succ, i64_w, i32_w]
    rfl
  refine pure_ (i := 5) (N := some 51) (v := ?_) (a' := ?_) #[true, true, false, false, false, true, false, false, false, false, false, false] rfl rfl (by kernel_rfl) (fun _ _ _ h => h) (Or.inl ⟨by rfl, ?_⟩) ?_ ?_
  rotate_left
  · intro w'
    go_simp
    with_reducible rfl
  rotate_left
  · simp only [Act.put, List.setIfInBounds_toArray, List.set_cons_zero, List.set_cons_succ, i64_w, i32_w]
    rfl
  refine pure_ (i := 6) (N := some 52) (v := ?_) (a' := ?_) #[true, true, false, false, false, true, true, false, false, false, false, false] rfl rfl (by kernel_rfl) (fun _ _ _ h => h) (Or.inl ⟨by rfl, ?_⟩) ?_ ?_
  rotate_left
  · intro w'
    go_simp
    with_reducible rfl
  rotate_left
  · simp only [Act.put, List.setIfInBounds_toArray, List.set_cons_zero, List.set_cons_succ, i64_w, i32_w]
    rfl
  refine take_ (i := 2) (N := some 48) (v := ?_) (a' := ?_) #[true, true, true, false, false, true, true, false, false, false, false, false] rfl rfl (by kernel_rfl) (fun _ _ _ h => h) (Or.inl ⟨by rfl, ?_⟩) hHeld ?_ ?_
  rotate_left
  · intro w' s0
    go_simp
    with_reducible rfl
  rotate_left
  · simp only [Act.put, List.setIfInBounds_toArray, List.set_cons_zero, List.set_cons_succ, i64_w, i32_w]
    rfl
  refine take_ (i := 7) (N := some 53) (v := ?_) (a' := ?_) #[true, true, true, false, false, true, true, true, false, false, false, false] rfl rfl (by kernel_rfl) (fun _ _ _ h => h) (Or.inl ⟨by rfl, ?_⟩) hHeld ?_ ?_
  rotate_left
  · intro w' s0
    go_simp
    with_reducible rfl
  rotate_left
  · simp only [Act.put, List.setIfInBounds_toArray, List.set_cons_zero, List.set_cons_succ, i64_w, i32_w]
    rfl
  refine one_ (i := 3) (N := some 49) #[true, true, true, true, false, true, true, true, false, false, false, false] rfl rfl (by kernel_rfl) (by decide) (fun K hK => ?_)
  refine goes_ Try.func11 (by kernel_rfl) rfl _ (by rfl) rfl rfl (by simp only [List.map_toArray, List.map_cons, List.map_nil]; rfl) ?_
  refine (HT.out.a).mono ?_
  rintro e u1 ⟨rfl, hm1⟩
  refine ⟨_, rfl, ?_⟩
  have HM1 := Aside0.mk hm1
  clear hm1
  refine hK.out _ _ (((HT.out.only _ HM1.out).cell HNZ.out co2)) (fun hHeld => ?_)
  clear hK K
  refine norm_ (a' := ?_) ?_ ?_
  rotate_left
  · show Act.put _ (some 49) _ = _
    simp only [Act.put, List.setIfInBounds_toArray, List.set_cons_zero, List.set_cons_succ, i64_w, i32_w]
    rfl
  refine one_ (i := 4) (N := some 50) #[true, true, true, true, true, true, true, true, false, false, false, false] rfl rfl (by kernel_rfl) (by decide) (fun K hK => ?_)
  refine goes_ Try.func10 (by kernel_rfl) rfl _ (by rfl) rfl rfl (by simp only [List.map_toArray, List.map_cons, List.map_nil]; rfl) ?_
  refine (num_calls _ _).mono ?_
  rintro e u2 ⟨rfl, hd2⟩
  refine ⟨_, rfl, ?_⟩
  have HM2 := Aside0.mk (HT.out.drawn _ _ HM1.out hd2)
  clear hd2
  refine hK.out _ _ (((HT.out.only _ HM2.out).cell HNZ.out co2)) (fun hHeld => ?_)
  clear hK K
  refine norm_ (a' := ?_) ?_ ?_
  rotate_left
  · show Act.put _ (some 50) _ = _
    simp only [Act.put, List.setIfInBounds_toArray, List.set_cons_zero, List.set_cons_succ, i64_w, i32_w]
    rfl
  refine one_ (i := 8) (N := some 54) #[true, true, true, true, true, true, true, true, true, false, false, false] rfl rfl (by kernel_rfl) (by decide) (fun K hK => ?_)
  refine goes_ Try.func31 (by kernel_rfl) rfl _ (by rfl) rfl rfl (by simp only [List.map_toArray, List.map_cons, List.map_nil]; rfl) ?_
  refine (HT.out.d _ HM2.out).mono ?_
  rintro e u3 ⟨rfl, Z9, hp3, hn3⟩
  refine ⟨_, rfl, ?_⟩
  have HP3 := Aside0.mk (HP2.out.ring1 hp3 hn3)
  have HN3 := Aside0.mk hn3
  clear hp3 hn3
  refine hK.out _ _ ((HN3.out.only.cell HNZ.out co2)) (fun hHeld => ?_)
  clear hK K
  refine norm_ (a' := ?_) ?_ ?_
  rotate_left
  · show Act.put _ (some 54) _ = _
    simp only [Act.put, List.setIfInBounds_toArray, List.set_cons_zero, List.set_cons_succ, i64_w, i32_w]
    rfl
  refine one_ (i := 9) (N := some 55) #[true, true, true, true, true, true, true, true, true, true, false, false] rfl rfl (by kernel_rfl) (by decide) (fun K hK => ?_)
  refine goes_ Try.func10 (by kernel_rfl) rfl _ (by rfl) rfl rfl (by simp only [List.map_toArray, List.map_cons, List.map_nil]; rfl) ?_
  refine (num_calls _ _).mono ?_
  rintro e u4 ⟨rfl, hd4⟩
  refine ⟨_, rfl, ?_⟩
  have HD4 := Aside0.mk hd4.below
  clear hd4
  refine hK.out _ _ ((blk_cell_below HD4.out hHeld)) (fun hHeld => ?_)
  clear hK K
  refine norm_ (a' := ?_) ?_ ?_
  rotate_left
  · show Act.put _ (some 55) _ = _
    simp only [Act.put, List.setIfInBounds_toArray, List.set_cons_zero, List.set_cons_succ, i64_w, i32_w]
    rfl
  refine pure_ (i := 10) (N := some 56) (v := ?_) (a' := ?_) #[true, true, true, true, true, true, true, true, true, true, true, false] rfl rfl (by kernel_rfl) (fun _ _ _ h => h) (Or.inl ⟨by rfl, ?_⟩) ?_ ?_
  rotate_left
  · intro w'
    go_simp
    with_reducible rfl
  rotate_left
  · simp only [Act.put, List.setIfInBounds_toArray, List.set_cons_zero, List.set_cons_succ, i64_w, i32_w]
    rfl
  refine pure_ (i := 11) (N := some 4) (v := ?_) (a' := ?_) #[true, true, true, true, true, true, true, true, true, true, true, true] rfl rfl (by kernel_rfl) (fun _ _ _ h => h) (Or.inl ⟨by rfl, ?_⟩) ?_ ?_
  rotate_left
  · intro w'
    go_simp
    with_reducible rfl
  rotate_left
  · simp only [Act.put, List.setIfInBounds_toArray, List.set_cons_zero, List.set_cons_succ, i64_w, i32_w]
    rfl
  refine done_ (by kernel_rfl) ?_
  clear hHeld co2
  go_wp2_with fail
  go_ret
  exact ⟨rfl, ((HP3.out.below HD4.out).step (Nat.le_refl _)).mono (Nat.le_succ _)⟩
set_option maxHeartbeats 16000000 in
set_option maxRecDepth 100000 in
theorem step_1_3 {w0 w : World} {p g0 g1 d0 d1 : Nat} {Z0 Z1 : Nat → Prop} {vt vw : Value} {m : Nat} {lt lw : List Value} (h : Pq w0 w p g0 g1 d0 d1 Z0 Z1 vt vw m m lt lw) (hm : (m + 1) * 24 ≤ 140737488355328) (at_ nn : Int) (hat : (Int.tmod at_ 2 != 0) = true) (hn0 : -9223372036854775808 ≤ nn) (hn1 : nn ≤ 9223372036854775807) : Calls Try.prog 24 #[.pointer (some ⟨p, 0, none⟩), .agg #[.int .i64 3, .int .i64 at_, .int .i64 nn]] w fun r w' => r = .returned (.bool true) ∧ Step w0 w' p (m + 1) := by
  have hu3 := Try.underlying3
  have hu22 := Try.underlying22
  have hu24 := Try.underlying24
  have hu51 := Try.underlying51
  have hu52 := Try.underlying52
  have hu53 := Try.underlying53
  have hu54 := Try.underlying54
  have hu55 := Try.underlying55
  have hu57 := Try.underlying57
  have hu61 := Try.underlying61
  have hu65 := Try.underlying65
  have hu73 := Try.underlying73
  have hu4 := Try.underlying4
  have HP := Aside0.mk h
  have HM := Aside0.mk hm
  have HN := Aside0.mk (And.intro hn0 hn1)
  clear h hm hn0 hn1
  go_enter Try.func24, Try.ntmps24
  go_upto_region 1 with fail
  have hbo := al_bel w (.cells #[.int .i64 3, .int .i64 at_, .int .i64 nn] 61)
  have hco := al_at w (.cells #[.int .i64 3, .int .i64 at_, .int .i64 nn] 61)
  obtain ⟨wb, hwb⟩ : ∃ wb, w.alloc (.cells #[.int .i64 3, .int .i64 at_, .int .i64 nn] 61) = wb := ⟨_, rfl⟩
  rw [hwb] at hbo hco ⊢
  clear hwb
  have HP1 := Aside0.mk (HP.out.below hbo)
  have HNB : Aside0 (¬ Z0 w.heap.size ∧ ¬ Z1 w.heap.size ∧ w.heap.size ≠ p) := ⟨fun e => Nat.lt_irrefl _ (HP.out.p0.lt _ e).2, fun e => Nat.lt_irrefl _ (HP.out.p1.lt _ e).2, fun e => Nat.lt_irrefl _ (e ▸ blk_lt HP.out.cp)⟩
  obtain ⟨bo, ebo⟩ : ∃ bo, w.heap.size = bo := ⟨_, rfl⟩
  rw [ebo] at hco HNB ⊢
  have HNZ : Aside0 (¬ Z1 bo) := ⟨HNB.out.2.1⟩
  have co0 := blk_cell hco 0
  have co1 := blk_cell hco 1
  have co2 := blk_cell hco 2
  have cpr := blk_cell HP1.out.cp 1
  have cpd := blk_cell HP1.out.cp 3
  simp only [List.getElem?_toArray, List.getElem?_cons_zero, List.getElem?_cons_succ] at co0 co1 co2 cpr cpd
  clear hbo hco ebo HP
  obtain ⟨x, b, M, hT⟩ := two_pop HP1.out.p1
  have HT := Aside0.mk hT
  clear hT
  go_wp2_with (first
    | (go_at_call 13; refine (HT.out.a).mono ?_; rintro e u1 ⟨rfl, hm1⟩; have HM1 := Aside0.mk hm1; have co2b := ((HT.out.only _ hm1).cell (a := ⟨bo, 2, none⟩) HNZ.out co2); clear hm1)
    | (go_at_call 32; refine (HT.out.d _ HM1.out).mono ?_; rintro e u2 ⟨rfl, Z9, hp3, hn3⟩; have HP3 := Aside0.mk (HP1.out.ring1 hp3 hn3); clear hp3 hn3))
  go_ret
  exact ⟨rfl, (HP3.out.step (Nat.le_refl _)).mono (Nat.le_succ _)⟩
set_option maxHeartbeats 16000000 in
set_option maxRecDepth 100000 in
theorem step_1_4 {w0 w : World} {p g0 g1 d0 d1 : Nat} {Z0 Z1 : Nat → Prop} {vt vw : Value} {m : Nat} {lt lw : List Value} (h : Pq w0 w p g0 g1 d0 d1 Z0 Z1 vt vw m m lt lw) (hm : (m + 1) * 24 ≤ 140737488355328) (at_ nn : Int) (hat : (Int.tmod at_ 2 != 0) = true) (hn0 : -9223372036854775808 ≤ nn) (hn1 : nn ≤ 9223372036854775807) : Calls Try.prog 24 #[.pointer (some ⟨p, 0, none⟩), .agg #[.int .i64 4, .int .i64 at_, .int .i64 nn]] w fun r w' => r = .returned (.bool true) ∧ Step w0 w' p (m + 1) := by
  have hu3 := Try.underlying3
  have hu22 := Try.underlying22
  have hu24 := Try.underlying24
  have hu51 := Try.underlying51
  have hu52 := Try.underlying52
  have hu53 := Try.underlying53
  have hu54 := Try.underlying54
  have hu55 := Try.underlying55
  have hu57 := Try.underlying57
  have hu61 := Try.underlying61
  have hu65 := Try.underlying65
  have hu73 := Try.underlying73
  have hu4 := Try.underlying4
  have HP := Aside0.mk h
  have HM := Aside0.mk hm
  have HN := Aside0.mk (And.intro hn0 hn1)
  clear h hm hn0 hn1
  go_enter Try.func24, Try.ntmps24
  go_upto_region 1 with fail
  have hbo := al_bel w (.cells #[.int .i64 4, .int .i64 at_, .int .i64 nn] 61)
  have hco := al_at w (.cells #[.int .i64 4, .int .i64 at_, .int .i64 nn] 61)
  obtain ⟨wb, hwb⟩ : ∃ wb, w.alloc (.cells #[.int .i64 4, .int .i64 at_, .int .i64 nn] 61) = wb := ⟨_, rfl⟩
  rw [hwb] at hbo hco ⊢
  clear hwb
  have HP1 := Aside0.mk (HP.out.below hbo)
  have HNB : Aside0 (¬ Z0 w.heap.size ∧ ¬ Z1 w.heap.size ∧ w.heap.size ≠ p) := ⟨fun e => Nat.lt_irrefl _ (HP.out.p0.lt _ e).2, fun e => Nat.lt_irrefl _ (HP.out.p1.lt _ e).2, fun e => Nat.lt_irrefl _ (e ▸ blk_lt HP.out.cp)⟩
  obtain ⟨bo, ebo⟩ : ∃ bo, w.heap.size = bo := ⟨_, rfl⟩
  rw [ebo] at hco HNB ⊢
  have HNZ : Aside0 (¬ Z1 bo) := ⟨HNB.out.2.1⟩
  have co0 := blk_cell hco 0
  have co1 := blk_cell hco 1
  have co2 := blk_cell hco 2
  have cpr := blk_cell HP1.out.cp 1
  have cpd := blk_cell HP1.out.cp 3
  simp only [List.getElem?_toArray, List.getElem?_cons_zero, List.getElem?_cons_succ] at co0 co1 co2 cpr cpd
  clear hbo hco ebo HP
  obtain ⟨x, b, M, hT⟩ := two_at nn HP1.out.p1
  have HT := Aside0.mk hT
  clear hT
  go_wp2_with (first
    | (go_at_call 21; refine (HT.out.a).mono ?_; rintro e u1 ⟨rfl, hm1⟩; have HM1 := Aside0.mk hm1; have co2b := ((HT.out.only _ hm1).cell (a := ⟨bo, 2, none⟩) HNZ.out co2); clear hm1)
    | (go_at_call 33; refine (HT.out.d _ HM1.out).mono ?_; rintro e u2 ⟨rfl, Z9, hp3, hn3⟩; have HP3 := Aside0.mk (HP1.out.ring1 hp3 hn3); clear hp3 hn3))
  go_ret
  exact ⟨rfl, (HP3.out.step (Nat.le_refl _)).mono (Nat.le_succ _)⟩
set_option maxHeartbeats 16000000 in
set_option maxRecDepth 100000 in
theorem step_1_5 {w0 w : World} {p g0 g1 d0 d1 : Nat} {Z0 Z1 : Nat → Prop} {vt vw : Value} {m : Nat} {lt lw : List Value} (h : Pq w0 w p g0 g1 d0 d1 Z0 Z1 vt vw m m lt lw) (hm : (m + 1) * 24 ≤ 140737488355328) (at_ nn : Int) (hat : (Int.tmod at_ 2 != 0) = true) (hn0 : -9223372036854775808 ≤ nn) (hn1 : nn ≤ 9223372036854775807) : Calls Try.prog 24 #[.pointer (some ⟨p, 0, none⟩), .agg #[.int .i64 5, .int .i64 at_, .int .i64 nn]] w fun r w' => r = .returned (.bool true) ∧ Step w0 w' p (m + 1) := by
  have hu3 := Try.underlying3
  have hu22 := Try.underlying22
  have hu24 := Try.underlying24
  have hu51 := Try.underlying51
  have hu52 := Try.underlying52
  have hu53 := Try.underlying53
  have hu54 := Try.underlying54
  have hu55 := Try.underlying55
  have hu57 := Try.underlying57
  have hu61 := Try.underlying61
  have hu65 := Try.underlying65
  have hu73 := Try.underlying73
  have hu4 := Try.underlying4
  have HP := Aside0.mk h
  have HM := Aside0.mk hm
  have HN := Aside0.mk (And.intro hn0 hn1)
  clear h hm hn0 hn1
  go_enter Try.func24, Try.ntmps24
  go_upto_region 1 with fail
  have hbo := al_bel w (.cells #[.int .i64 5, .int .i64 at_, .int .i64 nn] 61)
  have hco := al_at w (.cells #[.int .i64 5, .int .i64 at_, .int .i64 nn] 61)
  obtain ⟨wb, hwb⟩ : ∃ wb, w.alloc (.cells #[.int .i64 5, .int .i64 at_, .int .i64 nn] 61) = wb := ⟨_, rfl⟩
  rw [hwb] at hbo hco ⊢
  clear hwb
  have HP1 := Aside0.mk (HP.out.below hbo)
  have HNB : Aside0 (¬ Z0 w.heap.size ∧ ¬ Z1 w.heap.size ∧ w.heap.size ≠ p) := ⟨fun e => Nat.lt_irrefl _ (HP.out.p0.lt _ e).2, fun e => Nat.lt_irrefl _ (HP.out.p1.lt _ e).2, fun e => Nat.lt_irrefl _ (e ▸ blk_lt HP.out.cp)⟩
  obtain ⟨bo, ebo⟩ : ∃ bo, w.heap.size = bo := ⟨_, rfl⟩
  rw [ebo] at hco HNB ⊢
  have HNZ : Aside0 (¬ Z1 bo) := ⟨HNB.out.2.1⟩
  have co0 := blk_cell hco 0
  have co1 := blk_cell hco 1
  have co2 := blk_cell hco 2
  have cpr := blk_cell HP1.out.cp 1
  have cpd := blk_cell HP1.out.cp 3
  simp only [List.getElem?_toArray, List.getElem?_cons_zero, List.getElem?_cons_succ] at co0 co1 co2 cpr cpd
  clear hbo hco ebo HP
  obtain ⟨l, M, hZ, hA, hD⟩ := two_take nn HN.out.1 HN.out.2 HP1.out.p1
  have HZ := Aside0.mk hZ
  have HA := Aside0.mk hA
  have HD := Aside0.mk hD
  clear hZ hA hD
  go_upto_region 22 with (first
    | (go_at_call 12; refine (HA.out).mono ?_; rintro e u1 ⟨v, rfl, ho1, hm1⟩; obtain ⟨A1, c1, rfl⟩ := own_slice ho1; have HM1 := Aside0.mk hm1; have HO1 := Aside0.mk ho1; have co2b := ((HZ.out _ hm1).cell (a := ⟨bo, 2, none⟩) HNZ.out co2); clear hm1 ho1)
    | (go_at_call 34; refine (HD.out _ HM1.out).mono ?_; rintro e u2 ⟨v, rfl, ho2, hO2, hp3⟩; obtain ⟨A2, c2, rfl⟩ := own_slice ho2; have HP3 := Aside0.mk (HP1.out.ring1 hp3 (⟨(HZ.out _ HM1.out).then hO2, fun k e => .inl e⟩ : Nx wb u2 Z1 Z1)); have HO2 := Aside0.mk hO2; have HW2 := Aside0.mk ho2; clear ho2 hO2 hp3))
  clear co0 co1 co2 co2b cpr cpd
  have HR1 : Aside0 (Rw u2 w0.heap.size (Fr Z0 Z1 p) (Value.slice A1 l.length c1) l) := ⟨HP1.out.rw_new (HO2.out.own HO1.out (fun k hk e => Nat.lt_irrefl _ (Nat.lt_of_lt_of_le (HP1.out.p1.lt k e).2 (own_lt' HO1.out k hk).1))) (Nat.le_refl _)⟩
  have HR2 : Aside0 (Rw u2 w0.heap.size (Fr Z0 Z1 p) (Value.slice A2 l.length c2) l) := ⟨HP1.out.rw_new HW2.out (HZ.out _ HM1.out).size⟩
  have HLT : Aside0 (lt.length = m) := ⟨by have := HP3.out.ot.1; omega⟩
  have HLW : Aside0 (lw.length = m) := ⟨by have := HP3.out.ow.1; omega⟩
  clear HO1 HO2 HW2 HM1 HZ HA HD
  have ct0 := blk_cell HP3.out.cp 4
  simp only [List.getElem?_toArray, List.getElem?_cons_zero, List.getElem?_cons_succ] at ct0
  have HHT : Aside0 (u2.ownsRow w0.heap.size 22 1 vt lt.length lt) := ⟨by rw [HLT.out]; exact HP3.out.ot⟩
  have HMT : Aside0 ((lt.length + 1) * 24 ≤ 140737488355328) := ⟨by rw [HLT.out]; exact HM.out⟩
  go_upto_region 23 with (at_builtin; refine print_append (w0 := w0) w0.heap.size rfl (.tmp 115) (.tmp 117) 55 22 (.slice none 0 0) 24 rfl Try.underlying55 (by kernel_rfl) rfl (by decide) vt lt (Value.slice A1 l.length c1) rfl rfl (by rfl) HHT.out HP3.out.bel HP3.out.bel.size HMT.out ?_; intro v3 w3 ho3 hb3 hg3 hat3; have ho3 := own_l (n := m + 1) ho3 (by rw [List.length_append, List.length_singleton, HLT.out]); obtain ⟨A3, c3, rfl⟩ := own_slice ho3; have hp3 : w3.heap[p]? = _ := (hg3.block p (blk_lt HP3.out.cp) (fun e => (HP3.out.ft p e.symm).2.2 rfl)).trans HP3.out.cp; have cq4 := blk_cell hp3 4; have fq4 := blk_frozen hp3 4; simp only [List.getElem?_toArray, List.getElem?_cons_zero, List.getElem?_cons_succ] at cq4; have HO3 := Aside0.mk ho3; have HB3 := Aside0.mk hb3; have HG3 := Aside0.mk hg3; have HA3 := Aside0.mk hat3; clear ho3 hb3 hg3 hat3 hp3)
  have HP4 := Aside0.mk (HP3.out.told (y := (Value.slice A1 l.length c1)) HO3.out HB3.out HG3.out HA3.out)
  have HR3 := Aside0.mk (rw_tp (w0 := w0) HR1.out HP3.out.ot (fun k hk => hk.2.2) (tp_only (p := p) (v1 := .slice A3 (m + 1) c3) (j := 4) HG3.out))
  have HR4 := Aside0.mk (rw_tp (w0 := w0) HR2.out HP3.out.ot (fun k hk => hk.2.2) (tp_only (p := p) (v1 := .slice A3 (m + 1) c3) (j := 4) HG3.out))
  clear ct0 cq4 fq4 HO3 HB3 HG3 HA3 HR1 HR2 HHT HMT
  obtain ⟨w4, hw4⟩ : ∃ w4, w3.setCell ⟨p, 4, none⟩ (.slice A3 (m + 1) c3) = w4 := ⟨_, rfl⟩
  rw [hw4] at HP4 HR3 HR4 ⊢
  clear hw4
  have ct0 := blk_cell HP4.out.cp 5
  simp only [List.getElem?_toArray, List.getElem?_cons_zero, List.getElem?_cons_succ] at ct0
  have HHT : Aside0 (w4.ownsRow w0.heap.size 22 1 vw lw.length lw) := ⟨by rw [HLW.out]; exact HP4.out.ow⟩
  have HMT : Aside0 ((lw.length + 1) * 24 ≤ 140737488355328) := ⟨by rw [HLW.out]; exact HM.out⟩
  go_upto_region 24 with (at_builtin; refine print_append (w0 := w0) w0.heap.size rfl (.tmp 125) (.tmp 127) 55 22 (.slice none 0 0) 24 rfl Try.underlying55 (by kernel_rfl) rfl (by decide) vw lw (Value.slice A2 l.length c2) rfl rfl (by rfl) HHT.out HP4.out.bel HP4.out.bel.size HMT.out ?_; intro v5 w5 ho3 hb3 hg3 hat3; have ho3 := own_l (n := m + 1) ho3 (by rw [List.length_append, List.length_singleton, HLW.out]); obtain ⟨A5, c5, rfl⟩ := own_slice ho3; have hp3 : w5.heap[p]? = _ := (hg3.block p (blk_lt HP4.out.cp) (fun e => (HP4.out.fw p e.symm).2.2 rfl)).trans HP4.out.cp; have cq4 := blk_cell hp3 5; have fq4 := blk_frozen hp3 5; simp only [List.getElem?_toArray, List.getElem?_cons_zero, List.getElem?_cons_succ] at cq4; have HO3 := Aside0.mk ho3; have HB3 := Aside0.mk hb3; have HG3 := Aside0.mk hg3; have HA3 := Aside0.mk hat3; clear ho3 hb3 hg3 hat3 hp3)
  have HP6 := Aside0.mk (HP4.out.want (y := (Value.slice A2 l.length c2)) HO3.out HB3.out HG3.out HA3.out (l := l) (by rw [getD_app' lt _ HLT.out.symm]; exact HR3.out) HR4.out)
  have HR5 := Aside0.mk (rw_tp (w0 := w0) HR3.out HP4.out.ow (fun k hk => hk.2.2) (tp_only (p := p) (v1 := .slice A5 (m + 1) c5) (j := 5) HG3.out))
  have HR6 := Aside0.mk (rw_tp (w0 := w0) HR4.out HP4.out.ow (fun k hk => hk.2.2) (tp_only (p := p) (v1 := .slice A5 (m + 1) c5) (j := 5) HG3.out))
  clear ct0 cq4 fq4 HO3 HB3 HG3 HA3 HR3 HR4 HHT HMT
  obtain ⟨w6, hw6⟩ : ∃ w6, w5.setCell ⟨p, 5, none⟩ (.slice A5 (m + 1) c5) = w6 := ⟨_, rfl⟩
  rw [hw6] at HP6 HR5 HR6 ⊢
  clear hw6
  go_wp2_with (go_at_call 15; refine (same_calls w6 A1 A2 c1 c2 l (own_reads_of' (d := (0 : Int)) HR5.out.own) (own_reads_of' (d := (0 : Int)) HR6.out.own)).mono ?_; rintro e w7 ⟨rfl, hd7⟩; have HD7 := Aside0.mk hd7.below; clear hd7)
  go_ret
  exact ⟨rfl, (HP6.out.below HD7.out).step (Nat.le_refl _)⟩
set_option maxHeartbeats 16000000 in
set_option maxRecDepth 100000 in
theorem step_1_6 {w0 w : World} {p g0 g1 d0 d1 : Nat} {Z0 Z1 : Nat → Prop} {vt vw : Value} {m : Nat} {lt lw : List Value} (h : Pq w0 w p g0 g1 d0 d1 Z0 Z1 vt vw m m lt lw) (hm : (m + 1) * 24 ≤ 140737488355328) (at_ nn : Int) (hat : (Int.tmod at_ 2 != 0) = true) (hn0 : -9223372036854775808 ≤ nn) (hn1 : nn ≤ 9223372036854775807) : Calls Try.prog 24 #[.pointer (some ⟨p, 0, none⟩), .agg #[.int .i64 6, .int .i64 at_, .int .i64 nn]] w fun r w' => r = .returned (.bool true) ∧ Step w0 w' p (m + 1) := by
  have hu3 := Try.underlying3
  have hu22 := Try.underlying22
  have hu24 := Try.underlying24
  have hu51 := Try.underlying51
  have hu52 := Try.underlying52
  have hu53 := Try.underlying53
  have hu54 := Try.underlying54
  have hu55 := Try.underlying55
  have hu57 := Try.underlying57
  have hu61 := Try.underlying61
  have hu65 := Try.underlying65
  have hu73 := Try.underlying73
  have hu4 := Try.underlying4
  have HP := Aside0.mk h
  have HM := Aside0.mk hm
  have HN := Aside0.mk (And.intro hn0 hn1)
  clear h hm hn0 hn1
  go_enter Try.func24, Try.ntmps24
  go_upto_region 1 with fail
  have hbo := al_bel w (.cells #[.int .i64 6, .int .i64 at_, .int .i64 nn] 61)
  have hco := al_at w (.cells #[.int .i64 6, .int .i64 at_, .int .i64 nn] 61)
  obtain ⟨wb, hwb⟩ : ∃ wb, w.alloc (.cells #[.int .i64 6, .int .i64 at_, .int .i64 nn] 61) = wb := ⟨_, rfl⟩
  rw [hwb] at hbo hco ⊢
  clear hwb
  have HP1 := Aside0.mk (HP.out.below hbo)
  have HNB : Aside0 (¬ Z0 w.heap.size ∧ ¬ Z1 w.heap.size ∧ w.heap.size ≠ p) := ⟨fun e => Nat.lt_irrefl _ (HP.out.p0.lt _ e).2, fun e => Nat.lt_irrefl _ (HP.out.p1.lt _ e).2, fun e => Nat.lt_irrefl _ (e ▸ blk_lt HP.out.cp)⟩
  obtain ⟨bo, ebo⟩ : ∃ bo, w.heap.size = bo := ⟨_, rfl⟩
  rw [ebo] at hco HNB ⊢
  have HNZ : Aside0 (¬ Z1 bo) := ⟨HNB.out.2.1⟩
  have co0 := blk_cell hco 0
  have co1 := blk_cell hco 1
  have co2 := blk_cell hco 2
  have cpr := blk_cell HP1.out.cp 1
  have cpd := blk_cell HP1.out.cp 3
  simp only [List.getElem?_toArray, List.getElem?_cons_zero, List.getElem?_cons_succ] at co0 co1 co2 cpr cpd
  clear hbo hco ebo HP
  go_wp2_with (go_at_call 35; refine (ranged_pair nn HP1.out.p1).mono ?_; rintro e u1 ⟨rfl, Z9, hp3, hn3⟩; have HP3 := Aside0.mk (HP1.out.ring1 hp3 hn3); clear hp3 hn3)
  go_ret
  exact ⟨rfl, (HP3.out.step (Nat.le_refl _)).mono (Nat.le_succ _)⟩
set_option maxHeartbeats 16000000 in
set_option maxRecDepth 100000 in
theorem step_1_0 {w0 w : World} {p g0 g1 d0 d1 : Nat} {Z0 Z1 : Nat → Prop} {vt vw : Value} {m : Nat} {lt lw : List Value} (h : Pq w0 w p g0 g1 d0 d1 Z0 Z1 vt vw m m lt lw) (hm : (m + 1) * 24 ≤ 140737488355328) (kd at_ nn : Int) (hat : (Int.tmod at_ 2 != 0) = true) (hn0 : -9223372036854775808 ≤ nn) (hn1 : nn ≤ 9223372036854775807) (k1 : kd ≠ 1) (k2 : kd ≠ 2) (k3 : kd ≠ 3) (k4 : kd ≠ 4) (k5 : kd ≠ 5) (k6 : kd ≠ 6) : Calls Try.prog 24 #[.pointer (some ⟨p, 0, none⟩), .agg #[.int .i64 kd, .int .i64 at_, .int .i64 nn]] w fun r w' => r = .returned (.bool true) ∧ Step w0 w' p (m + 1) := by
  have hu3 := Try.underlying3
  have hu22 := Try.underlying22
  have hu24 := Try.underlying24
  have hu51 := Try.underlying51
  have hu52 := Try.underlying52
  have hu53 := Try.underlying53
  have hu54 := Try.underlying54
  have hu55 := Try.underlying55
  have hu57 := Try.underlying57
  have hu61 := Try.underlying61
  have hu65 := Try.underlying65
  have hu73 := Try.underlying73
  have hu4 := Try.underlying4
  have e1 : (kd == 1) = false := by simpa using k1
  have e2 : (kd == 2) = false := by simpa using k2
  have e3 : (kd == 3) = false := by simpa using k3
  have e4 : (kd == 4) = false := by simpa using k4
  have e5 : (kd == 5) = false := by simpa using k5
  have e6 : (kd == 6) = false := by simpa using k6
  have HP := Aside0.mk h
  have HM := Aside0.mk hm
  have HN := Aside0.mk (And.intro hn0 hn1)
  clear h hm hn0 hn1
  go_enter Try.func24, Try.ntmps24
  go_upto_region 1 with fail
  have hbo := al_bel w (.cells #[.int .i64 kd, .int .i64 at_, .int .i64 nn] 61)
  have hco := al_at w (.cells #[.int .i64 kd, .int .i64 at_, .int .i64 nn] 61)
  obtain ⟨wb, hwb⟩ : ∃ wb, w.alloc (.cells #[.int .i64 kd, .int .i64 at_, .int .i64 nn] 61) = wb := ⟨_, rfl⟩
  rw [hwb] at hbo hco ⊢
  clear hwb
  have HP1 := Aside0.mk (HP.out.below hbo)
  have HNB : Aside0 (¬ Z0 w.heap.size ∧ ¬ Z1 w.heap.size ∧ w.heap.size ≠ p) := ⟨fun e => Nat.lt_irrefl _ (HP.out.p0.lt _ e).2, fun e => Nat.lt_irrefl _ (HP.out.p1.lt _ e).2, fun e => Nat.lt_irrefl _ (e ▸ blk_lt HP.out.cp)⟩
  obtain ⟨bo, ebo⟩ : ∃ bo, w.heap.size = bo := ⟨_, rfl⟩
  rw [ebo] at hco HNB ⊢
  have HNZ : Aside0 (¬ Z1 bo) := ⟨HNB.out.2.1⟩
  have co0 := blk_cell hco 0
  have co1 := blk_cell hco 1
  have co2 := blk_cell hco 2
  have cpr := blk_cell HP1.out.cp 1
  have cpd := blk_cell HP1.out.cp 3
  simp only [List.getElem?_toArray, List.getElem?_cons_zero, List.getElem?_cons_succ] at co0 co1 co2 cpr cpd
  clear hbo hco ebo HP
  go_wp2_with fail
  go_ret
  exact ⟨rfl, (HP1.out.step (Nat.le_refl _)).mono (Nat.le_succ _)⟩

end Go.Proofs.Ytjajaklichiknaa.Rg
