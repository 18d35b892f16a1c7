/- Proved: the walks of the document's Float and Of. -/
import Derived.Test.YtjffkidfoapbjaaRefMix
import Derived.Test.YtjffkidfoapbjaaOf
namespace Go.Proofs.Ytjffkidfoapbjaa.Fl
open Go.RowKit Go.Proofs.YtjffkidfoapbjaaW.PrintWords Go.Proofs.YtjffkidfoapbjaaW.PrintLast Go.Proofs.YtjffkidfoapbjaaW.PrintMore
set_option linter.unusedVariables false
set_option linter.unusedSimpArgs false
attribute [local go_sem] run_store_float

theorem w64 {x : Int} (h : -9223372036854775808 ≤ x) (h' : x ≤ 9223372036854775807) : wrap64 x = x := by
  unfold wrap64
  omega

set_option maxRecDepth 100000 in
theorem reffloat_calls (n : Int) (w : World) : Calls Try.prog 35 #[.int .i64 n] w fun e w' => ∃ r, Fe r (fixF n) ∧ e = .returned (.float .f32 r) ∧ Drawn0 w w' := by
  have hu2 := Try.underlying2
  have hu22 := Try.underlying22
  go_enter Try.func35, Try.ntmps35
  go_wp2_with (first
      | ((try (refine gate_guard (by rfl) ?_; dsimp only)); refine wpList_fl _ rfl _ _ _ _ _ rfl (by decide) _ _ _ _ rfl rfl (by first | assumption | exact Fe.refl _) (by first | assumption | exact Fe.refl _) ?_; intro z nd hz)
      | ((try (refine gate_guard (by rfl) ?_; dsimp only)); refine wpList_flc _ rfl _ _ _ _ _ rfl (by decide) _ _ _ _ rfl rfl (by first | assumption | exact Fe.refl _) (by first | assumption | exact Fe.refl _) ?_))
  go_ret
  exact ⟨_, by assumption, rfl, ⟨⟨_, rfl⟩⟩⟩

set_option maxHeartbeats 4000000 in
set_option maxRecDepth 100000 in
theorem refof_calls (x y h : Int) (h0 : -9223372036854775808 ≤ h) (h1 : h ≤ 9223372036854775807) (w : World) : Calls Try.prog 21 #[.agg #[.int .i64 x, .int .i64 y], .int .i64 h] w fun e w' => ∃ p q r, Fe p (fixF x) ∧ Fe q (fixF y) ∧ Fe r (angF (Go.bits .and .i64 h 255)) ∧ e = .returned (.agg #[.float .f32 p, .float .f32 q, .float .f32 r]) ∧ Below w.heap.size w w' := by
  have hu38 := Try.underlying38
  have hu24 := Try.underlying24
  have hu22 := Try.underlying22
  have hu3 := Try.underlying3
  have hu2 := Try.underlying2
  rw [i64_and255]
  go_enter Try.func21, Try.ntmps21
  go_wp2_with (first
      | ((with_reducible refine gate_dst (N := 2) rfl ?_); refine box_event ?hg (N := 2) ?hd (cs := #[.int .i64 x, .int .i64 y]) (t := 38) ?hr ?_; (case hd => rfl); (case hg => rfl); (case hr => first | (go_simp; done) | (go_simp; rfl)); intro g2 eg2 w3 Xg2 Bg2; clear eg2)
      | ((with_reducible refine gate_dst (N := 4) rfl ?_); refine box_event ?hg (N := 4) ?hd (cs := #[.float .f32 0, .float .f32 0, .float .f32 0]) (t := 24) ?hr ?_; (case hd => rfl); (case hg => rfl); (case hr => first | (go_simp; done) | (go_simp; rfl)); intro g4 eg4 w6 Xg4 Bg4; have Xg2 := blk_below Xg2 Bg4; have hg4 : w.heap.size ≤ g4 := (by rw [eg4]; exact Bg2.size); have hB := below_step Bg2 Bg4; clear eg4; have cg2_0 : w6.cell? ⟨g2, 0, none⟩ = some (.int .i64 x) := (blk_cell Xg2 0).trans rfl; have cg2_1 : w6.cell? ⟨g2, 1, none⟩ = some (.int .i64 y) := (blk_cell Xg2 1).trans rfl; have fg2_0 := blk_frozen Xg2 0; have fg2_1 := blk_frozen Xg2 1; have cg4_0 : w6.cell? ⟨g4, 0, none⟩ = some (.float .f32 0) := (blk_cell Xg4 0).trans rfl; have cg4_1 : w6.cell? ⟨g4, 1, none⟩ = some (.float .f32 0) := (blk_cell Xg4 1).trans rfl; have cg4_2 : w6.cell? ⟨g4, 2, none⟩ = some (.float .f32 0) := (blk_cell Xg4 2).trans rfl; have fg4_0 := blk_frozen Xg4 0; have fg4_1 := blk_frozen Xg4 1; have fg4_2 := blk_frozen Xg4 2))
  all_goals
    refine start_ (n := 11) (S := fun w' => w'.cell? ⟨g2, 0, none⟩ = some (.int .i64 x) ∧ w'.cell? ⟨g2, 1, none⟩ = some (.int .i64 y)) (ds := [10]) #[false, false, false, false, false, false, false, false, false, false, false] (by kernel_rfl) rfl rfl ⟨cg2_0, cg2_1⟩ (fun hHeld => ?_)
    refine pure_ (i := 0) (N := some 12) (v := ?_) (a' := ?_) #[true, false, false, false, false, false, false, false, false, false, false] rfl rfl (by kernel_rfl) (fun _ _ _ h => h) (Or.inl ⟨by rfl, ?_⟩) ?_ ?_
    rotate_left
    · intro w'
      go_simp
      with_reducible rfl
    rotate_left
    · simp only [Act.put, List.setIfInBounds_toArray, List.set_cons_zero, List.set_cons_succ, i64_w, i32_w]
      rfl
    refine pure_ (i := 3) (N := some 15) (v := ?_) (a' := ?_) #[true, false, false, true, false, false, false, false, false, false, false] rfl rfl (by kernel_rfl) (fun _ _ _ h => h) (Or.inl ⟨by rfl, ?_⟩) ?_ ?_
    rotate_left
    · intro w'
      go_simp
      with_reducible rfl
    rotate_left
    · simp only [Act.put, List.setIfInBounds_toArray, List.set_cons_zero, List.set_cons_succ, i64_w, i32_w]
      rfl
    refine pure_ (i := 6) (N := some 18) (v := ?_) (a' := ?_) #[true, false, false, true, false, false, true, false, false, false, false] rfl rfl (by kernel_rfl) (fun _ _ _ h => h) (Or.inl ⟨by rfl, ?_⟩) ?_ ?_
    rotate_left
    · intro w'
      go_simp
      with_reducible rfl
    rotate_left
    · simp only [Act.put, List.setIfInBounds_toArray, List.set_cons_zero, List.set_cons_succ, i64_w, i32_w]
      rfl
    refine pure_ (i := 7) (N := some 19) (v := ?_) (a' := ?_) #[true, false, false, true, false, false, true, true, false, false, false] rfl rfl (by kernel_rfl) (fun _ _ _ h => h) (Or.inl ⟨by rfl, ?_⟩) ?_ ?_
    rotate_left
    · intro w'
      go_simp
      with_reducible rfl
    rotate_left
    · simp only [Act.put, List.setIfInBounds_toArray, List.set_cons_zero, List.set_cons_succ, i64_w, i32_w]
      rfl
    refine take_ (i := 1) (N := some 13) (v := ?_) (a' := ?_) #[true, true, false, true, false, false, true, true, false, false, false] rfl rfl (by kernel_rfl) (fun _ _ _ h => h) (Or.inl ⟨by rfl, ?_⟩) hHeld ?_ ?_
    rotate_left
    · rintro w' ⟨s0, s1⟩
      go_simp
      with_reducible rfl
    rotate_left
    · simp only [Act.put, List.setIfInBounds_toArray, List.set_cons_zero, List.set_cons_succ, i64_w, i32_w]
      rfl
    refine take_ (i := 4) (N := some 16) (v := ?_) (a' := ?_) #[true, true, false, true, true, false, true, true, false, false, false] rfl rfl (by kernel_rfl) (fun _ _ _ h => h) (Or.inl ⟨by rfl, ?_⟩) hHeld ?_ ?_
    rotate_left
    · rintro w' ⟨s0, s1⟩
      go_simp
      with_reducible rfl
    rotate_left
    · simp only [Act.put, List.setIfInBounds_toArray, List.set_cons_zero, List.set_cons_succ, i64_w, i32_w]
      rfl
    refine one_ (i := 2) (N := some 14) #[true, true, true, true, true, false, true, true, false, false, false] rfl rfl (by kernel_rfl) (by decide) (fun K hK => ?_)
    refine goes_ Try.func35 (by kernel_rfl) rfl _ (by rfl) rfl rfl (by simp only [List.map_toArray, List.map_cons, List.map_nil]; rfl) ?_
    refine (reffloat_calls x _).mono ?_
    rintro e w8 ⟨z1, hz1, rfl, hd1⟩
    refine ⟨_, rfl, ?_⟩
    have Xg4 := dblk hd1 Xg4
    have hB := dbelow hd1 (below_drew1 hB)
    refine hK.out _ _ ⟨dcell hd1 (hHeld.1), dcell hd1 (hHeld.2)⟩ (fun hHeld => ?_)
    clear hK K
    refine norm_ (a' := ?_) ?_ ?_
    rotate_left
    · show Act.put _ (some 14) _ = _
      simp only [Act.put, List.setIfInBounds_toArray, List.set_cons_zero, List.set_cons_succ, i64_w, i32_w]
      rfl
    refine one_ (i := 5) (N := some 17) #[true, true, true, true, true, true, true, true, false, false, false] rfl rfl (by kernel_rfl) (by decide) (fun K hK => ?_)
    refine goes_ Try.func35 (by kernel_rfl) rfl _ (by rfl) rfl rfl (by simp only [List.map_toArray, List.map_cons, List.map_nil]; rfl) ?_
    refine (reffloat_calls y _).mono ?_
    rintro e w8 ⟨z2, hz2, rfl, hd2⟩
    refine ⟨_, rfl, ?_⟩
    have Xg4 := dblk hd2 Xg4
    have hB := dbelow hd2 hB
    refine hK.out _ _ ⟨dcell hd2 (hHeld.1), dcell hd2 (hHeld.2)⟩ (fun hHeld => ?_)
    clear hK K
    refine norm_ (a' := ?_) ?_ ?_
    rotate_left
    · show Act.put _ (some 17) _ = _
      simp only [Act.put, List.setIfInBounds_toArray, List.set_cons_zero, List.set_cons_succ, i64_w, i32_w]
      rfl
    refine one_ (i := 8) (N := some 20) #[true, true, true, true, true, true, true, true, true, false, false] rfl rfl (by kernel_rfl) (by decide) (fun K hK => ?_)
    refine goes_ Try.func33 (by kernel_rfl) rfl _ (by rfl) rfl rfl (by simp only [List.map_toArray, List.map_cons, List.map_nil]; rfl) ?_
    refine (times_calls _ _ _ _ (Fe.refl _) (Fe.refl _) _).mono ?_
    rintro e w8 ⟨z3, hz3, rfl, hd3⟩
    refine ⟨_, rfl, ?_⟩
    have Xg4 := dblk hd3 Xg4
    have hB := dbelow hd3 hB
    refine hK.out _ _ ⟨dcell hd3 (hHeld.1), dcell hd3 (hHeld.2)⟩ (fun hHeld => ?_)
    clear hK K
    refine norm_ (a' := ?_) ?_ ?_
    rotate_left
    · show Act.put _ (some 20) _ = _
      simp only [Act.put, List.setIfInBounds_toArray, List.set_cons_zero, List.set_cons_succ, i64_w, i32_w]
      rfl
    refine pure_ (i := 9) (N := some 21) (v := ?_) (a' := ?_) #[true, true, true, true, true, true, true, true, true, true, false] rfl rfl (by kernel_rfl) (fun _ _ _ h => h) (Or.inl ⟨by rfl, ?_⟩) ?_ ?_
    rotate_left
    · intro w'
      go_simp
      with_reducible rfl
    rotate_left
    · simp only [Act.put, List.setIfInBounds_toArray, List.set_cons_zero, List.set_cons_succ, i64_w, i32_w]
      rfl
    refine last_ (i := 10) (N := none) #[true, true, true, true, true, true, true, true, true, true, true] rfl rfl (by kernel_rfl) (by decide) (fun K hK => ?_)
    have cg4_0 : w8.cell? ⟨g4, 0, none⟩ = some (.float .f32 0) := (blk_cell Xg4 0).trans rfl
    have cg4_1 : w8.cell? ⟨g4, 1, none⟩ = some (.float .f32 0) := (blk_cell Xg4 1).trans rfl
    have cg4_2 : w8.cell? ⟨g4, 2, none⟩ = some (.float .f32 0) := (blk_cell Xg4 2).trans rfl
    have fg4_0 := blk_frozen Xg4 0
    have fg4_1 := blk_frozen Xg4 1
    have fg4_2 := blk_frozen Xg4 2
    refine skip_ (w1 := ?_) (by rfl) rfl ?_ ?_
    rotate_left
    · go_simp
      rfl
    refine hK.out _ _ ?_
    clear hK K
    refine done_ (by kernel_rfl) ?_

    go_wp2
    (try simp only [Exit.inBlock, Exit.then]); refine bodyPost_ret (results_cell_row rfl _ _ g4 24 #[.float .f32 z1, .float .f32 z2, .float .f32 z3] (0, 0) _ rfl (blk_put (blk_put (blk_put Xg4 0 _ rfl) 1 _ rfl) 2 _ rfl) Try.underlying24 rfl (by kernel_rfl)) rfl ?_
    refine ⟨z1, z2, z3, hz1, hz2, ?_, rfl, below_set (below_set (below_set hB hg4) hg4) hg4⟩
    have q1 := Int.mul_tdiv_add_tmod h 256
    have q2 := Int.tmod_lt_of_pos h (show (0 : Int) < 256 by decide)
    have q3 := Int.lt_tmod_of_pos h (show (0 : Int) < 256 by decide)
    first
      | (rw [w64 (x := h.tmod 256 + 256) (by omega) (by omega)] at hz3; rw [angF, show h % 256 = h.tmod 256 + 256 by omega]; exact hz3)
      | (rw [angF, show h % 256 = h.tmod 256 by omega]; exact hz3)
end Go.Proofs.Ytjffkidfoapbjaa.Fl
