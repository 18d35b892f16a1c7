/- Proved: the walk of the document's Mix: what it gives, one NaN as good as another. -/
import Derived.Test.YtjffkidfoapbjaaMix
namespace Go.Proofs.Ytjffkidfoapbjaa.Fl
open Go.RowKit Go.Proofs.YtjffkidfoapbjaaW.PrintWords Go.Proofs.YtjffkidfoapbjaaW.PrintLast Go.Proofs.YtjffkidfoapbjaaW.PrintMore
set_option linter.unusedVariables false
set_option linter.unusedSimpArgs false
attribute [local go_sem] run_store_float

set_option maxRecDepth 100000 in
theorem less_calls (a b A B : Nat) (hA : Fe a A) (hB : Fe b B) (w : World) : Calls Try.prog 31 #[.float .f32 a, .float .f32 b] w fun e w' => ∃ r, Fe r (fop .sub A B) ∧ e = .returned (.float .f32 r) ∧ Drawn0 w w' := by
  go_enter Try.func31, Try.ntmps31
  go_wp2_with (first
      | ((try (refine gate_guard (by rfl) ?_; dsimp only)); refine wpList_fl _ rfl _ _ _ _ _ rfl (by decide) _ _ _ _ rfl rfl (by first | assumption | exact Fe.refl _) (by first | assumption | exact Fe.refl _) ?_; intro z nd hz)
      | ((try (refine gate_guard (by rfl) ?_; dsimp only)); refine wpList_flc _ rfl _ _ _ _ _ rfl (by decide) _ _ _ _ rfl rfl (by first | assumption | exact Fe.refl _) (by first | assumption | exact Fe.refl _) ?_))
  go_ret
  exact ⟨_, by assumption, rfl, ⟨⟨_, rfl⟩⟩⟩

set_option maxRecDepth 100000 in
theorem plus_calls (a b A B : Nat) (hA : Fe a A) (hB : Fe b B) (w : World) : Calls Try.prog 32 #[.float .f32 a, .float .f32 b] w fun e w' => ∃ r, Fe r (fop .add A B) ∧ e = .returned (.float .f32 r) ∧ Drawn0 w w' := by
  go_enter Try.func32, Try.ntmps32
  go_wp2_with (first
      | ((try (refine gate_guard (by rfl) ?_; dsimp only)); refine wpList_fl _ rfl _ _ _ _ _ rfl (by decide) _ _ _ _ rfl rfl (by first | assumption | exact Fe.refl _) (by first | assumption | exact Fe.refl _) ?_; intro z nd hz)
      | ((try (refine gate_guard (by rfl) ?_; dsimp only)); refine wpList_flc _ rfl _ _ _ _ _ rfl (by decide) _ _ _ _ rfl rfl (by first | assumption | exact Fe.refl _) (by first | assumption | exact Fe.refl _) ?_))
  go_ret
  exact ⟨_, by assumption, rfl, ⟨⟨_, rfl⟩⟩⟩

set_option maxRecDepth 100000 in
theorem times_calls (a b A B : Nat) (hA : Fe a A) (hB : Fe b B) (w : World) : Calls Try.prog 33 #[.float .f32 a, .float .f32 b] w fun e w' => ∃ r, Fe r (fop .mul A B) ∧ e = .returned (.float .f32 r) ∧ Drawn0 w w' := by
  go_enter Try.func33, Try.ntmps33
  go_wp2_with (first
      | ((try (refine gate_guard (by rfl) ?_; dsimp only)); refine wpList_fl _ rfl _ _ _ _ _ rfl (by decide) _ _ _ _ rfl rfl (by first | assumption | exact Fe.refl _) (by first | assumption | exact Fe.refl _) ?_; intro z nd hz)
      | ((try (refine gate_guard (by rfl) ?_; dsimp only)); refine wpList_flc _ rfl _ _ _ _ _ rfl (by decide) _ _ _ _ rfl rfl (by first | assumption | exact Fe.refl _) (by first | assumption | exact Fe.refl _) ?_))
  go_ret
  exact ⟨_, by assumption, rfl, ⟨⟨_, rfl⟩⟩⟩

set_option maxHeartbeats 8000000 in
set_option maxRecDepth 100000 in
theorem refmix_calls (ax ay aa bx by_ ba t : Nat) (w : World) : Calls Try.prog 13 #[.agg #[.float .f32 ax, .float .f32 ay, .float .f32 aa], .agg #[.float .f32 bx, .float .f32 by_, .float .f32 ba], .float .f32 t] w fun e w' => ∃ x y z, Fe x (mixS ax bx t) ∧ Fe y (mixS ay by_ t) ∧ Fe z (mixA aa ba t) ∧ e = .returned (.agg #[.float .f32 x, .float .f32 y, .float .f32 z]) ∧ Below w.heap.size w w' := by
  have hu24 := Try.underlying24
  go_enter Try.func13, Try.ntmps13
  go_wp2_with (first
      | ((try (refine gate_guard (by rfl) ?_; dsimp only)); refine wpList_fl _ rfl _ _ _ _ _ rfl (by decide) _ _ _ _ rfl rfl (by first | assumption | exact Fe.refl _) (by first | assumption | exact Fe.refl _) ?_; intro z nd hz)
      | ((try (refine gate_guard (by rfl) ?_; dsimp only)); refine wpList_flc _ rfl _ _ _ _ _ rfl (by decide) _ _ _ _ rfl rfl (by first | assumption | exact Fe.refl _) (by first | assumption | exact Fe.refl _) ?_)
      | ((with_reducible refine gate_dst (N := 3) rfl ?_); refine box_event ?hg (N := 3) ?hd (cs := #[.float .f32 ax, .float .f32 ay, .float .f32 aa]) (t := 24) ?hr ?_; (case hd => rfl); (case hg => rfl); (case hr => first | (go_simp; done) | (go_simp; rfl)); intro g3 eg3 w3 Xg3 Bg3; clear eg3)
      | ((with_reducible refine gate_dst (N := 4) rfl ?_); refine box_event ?hg (N := 4) ?hd (cs := #[.float .f32 bx, .float .f32 by_, .float .f32 ba]) (t := 24) ?hr ?_; (case hd => rfl); (case hg => rfl); (case hr => first | (go_simp; done) | (go_simp; rfl)); intro g4 eg4 w4 Xg4 Bg4; have Xg3 := blk_below Xg3 Bg4; have hB4 := below_step Bg3 Bg4; clear eg4)
      | ((with_reducible refine gate_dst (N := 6) rfl ?_); refine box_event ?hg (N := 6) ?hd (cs := #[.float .f32 0, .float .f32 0, .float .f32 0]) (t := 24) ?hr ?_; (case hd => rfl); (case hg => rfl); (case hr => first | (go_simp; done) | (go_simp; rfl)); intro g6 eg6 w6 Xg6 Bg6; have Xg3 := blk_below Xg3 Bg6; have Xg4 := blk_below Xg4 Bg6; have hB := below_step hB4 Bg6; have hg6 : w.heap.size ≤ g6 := (by rw [eg6]; exact hB4.size); have cg3_0 : w6.cell? ⟨g3, 0, none⟩ = some (.float .f32 ax) := (blk_cell Xg3 0).trans rfl; have cg3_1 : w6.cell? ⟨g3, 1, none⟩ = some (.float .f32 ay) := (blk_cell Xg3 1).trans rfl; have cg3_2 : w6.cell? ⟨g3, 2, none⟩ = some (.float .f32 aa) := (blk_cell Xg3 2).trans rfl; have fg3_0 := blk_frozen Xg3 0; have fg3_1 := blk_frozen Xg3 1; have fg3_2 := blk_frozen Xg3 2; have cg4_0 : w6.cell? ⟨g4, 0, none⟩ = some (.float .f32 bx) := (blk_cell Xg4 0).trans rfl; have cg4_1 : w6.cell? ⟨g4, 1, none⟩ = some (.float .f32 by_) := (blk_cell Xg4 1).trans rfl; have cg4_2 : w6.cell? ⟨g4, 2, none⟩ = some (.float .f32 ba) := (blk_cell Xg4 2).trans rfl; have fg4_0 := blk_frozen Xg4 0; have fg4_1 := blk_frozen Xg4 1; have fg4_2 := blk_frozen Xg4 2; have cg6_0 : w6.cell? ⟨g6, 0, none⟩ = some (.float .f32 0) := (blk_cell Xg6 0).trans rfl; have cg6_1 : w6.cell? ⟨g6, 1, none⟩ = some (.float .f32 0) := (blk_cell Xg6 1).trans rfl; have cg6_2 : w6.cell? ⟨g6, 2, none⟩ = some (.float .f32 0) := (blk_cell Xg6 2).trans rfl; have fg6_0 := blk_frozen Xg6 0; have fg6_1 := blk_frozen Xg6 1; have fg6_2 := blk_frozen Xg6 2; clear Bg3 Bg4 Bg6 eg6)
      | (go_at_call 31; refine (less_calls _ _ _ _ (by first | assumption | exact Fe.refl _) (by first | assumption | exact Fe.refl _) _).mono ?_; rintro e w7 ⟨z, hz, rfl, hd⟩; have Xg3 := dblk hd Xg3; have Xg4 := dblk hd Xg4; have Xg6 := dblk hd Xg6; have hB := dbelow hd hB; have cg3_0 : w7.cell? ⟨g3, 0, none⟩ = some (.float .f32 ax) := (blk_cell Xg3 0).trans rfl; have cg3_1 : w7.cell? ⟨g3, 1, none⟩ = some (.float .f32 ay) := (blk_cell Xg3 1).trans rfl; have cg3_2 : w7.cell? ⟨g3, 2, none⟩ = some (.float .f32 aa) := (blk_cell Xg3 2).trans rfl; have fg3_0 := blk_frozen Xg3 0; have fg3_1 := blk_frozen Xg3 1; have fg3_2 := blk_frozen Xg3 2; have cg4_0 : w7.cell? ⟨g4, 0, none⟩ = some (.float .f32 bx) := (blk_cell Xg4 0).trans rfl; have cg4_1 : w7.cell? ⟨g4, 1, none⟩ = some (.float .f32 by_) := (blk_cell Xg4 1).trans rfl; have cg4_2 : w7.cell? ⟨g4, 2, none⟩ = some (.float .f32 ba) := (blk_cell Xg4 2).trans rfl; have fg4_0 := blk_frozen Xg4 0; have fg4_1 := blk_frozen Xg4 1; have fg4_2 := blk_frozen Xg4 2; have cg6_0 : w7.cell? ⟨g6, 0, none⟩ = some (.float .f32 0) := (blk_cell Xg6 0).trans rfl; have cg6_1 : w7.cell? ⟨g6, 1, none⟩ = some (.float .f32 0) := (blk_cell Xg6 1).trans rfl; have cg6_2 : w7.cell? ⟨g6, 2, none⟩ = some (.float .f32 0) := (blk_cell Xg6 2).trans rfl; have fg6_0 := blk_frozen Xg6 0; have fg6_1 := blk_frozen Xg6 1; have fg6_2 := blk_frozen Xg6 2)
      | (go_at_call 32; refine (plus_calls _ _ _ _ (by first | assumption | exact Fe.refl _) (by first | assumption | exact Fe.refl _) _).mono ?_; rintro e w7 ⟨z, hz, rfl, hd⟩; have Xg3 := dblk hd Xg3; have Xg4 := dblk hd Xg4; have Xg6 := dblk hd Xg6; have hB := dbelow hd hB; have cg3_0 : w7.cell? ⟨g3, 0, none⟩ = some (.float .f32 ax) := (blk_cell Xg3 0).trans rfl; have cg3_1 : w7.cell? ⟨g3, 1, none⟩ = some (.float .f32 ay) := (blk_cell Xg3 1).trans rfl; have cg3_2 : w7.cell? ⟨g3, 2, none⟩ = some (.float .f32 aa) := (blk_cell Xg3 2).trans rfl; have fg3_0 := blk_frozen Xg3 0; have fg3_1 := blk_frozen Xg3 1; have fg3_2 := blk_frozen Xg3 2; have cg4_0 : w7.cell? ⟨g4, 0, none⟩ = some (.float .f32 bx) := (blk_cell Xg4 0).trans rfl; have cg4_1 : w7.cell? ⟨g4, 1, none⟩ = some (.float .f32 by_) := (blk_cell Xg4 1).trans rfl; have cg4_2 : w7.cell? ⟨g4, 2, none⟩ = some (.float .f32 ba) := (blk_cell Xg4 2).trans rfl; have fg4_0 := blk_frozen Xg4 0; have fg4_1 := blk_frozen Xg4 1; have fg4_2 := blk_frozen Xg4 2; have cg6_0 : w7.cell? ⟨g6, 0, none⟩ = some (.float .f32 0) := (blk_cell Xg6 0).trans rfl; have cg6_1 : w7.cell? ⟨g6, 1, none⟩ = some (.float .f32 0) := (blk_cell Xg6 1).trans rfl; have cg6_2 : w7.cell? ⟨g6, 2, none⟩ = some (.float .f32 0) := (blk_cell Xg6 2).trans rfl; have fg6_0 := blk_frozen Xg6 0; have fg6_1 := blk_frozen Xg6 1; have fg6_2 := blk_frozen Xg6 2))
  · (try simp only [Exit.inBlock, Exit.then]); refine bodyPost_ret (results_cell_row rfl _ _ g6 24 #[.float .f32 ax, .float .f32 ay, .float .f32 aa] (0, 0) _ rfl (blk_put (blk_put (blk_put Xg6 0 _ rfl) 1 _ rfl) 2 _ rfl) Try.underlying24 rfl (by kernel_rfl)) rfl ?_
    exact ⟨ax, ay, aa, by simp_all [mixS, Fe.refl], by simp_all [mixS, Fe.refl], by simp_all [mixA, Fe.refl], rfl, below_set (below_set (below_set hB hg6) hg6) hg6⟩
  · (try simp only [Exit.inBlock, Exit.then]); refine bodyPost_ret (results_cell_row rfl _ _ g6 24 #[.float .f32 bx, .float .f32 by_, .float .f32 ba] (0, 0) _ rfl (blk_put (blk_put (blk_put Xg6 0 _ rfl) 1 _ rfl) 2 _ rfl) Try.underlying24 rfl (by kernel_rfl)) rfl ?_
    exact ⟨bx, by_, ba, by simp_all [mixS, Fe.refl], by simp_all [mixS, Fe.refl], by simp_all [mixA, Fe.refl], rfl, below_set (below_set (below_set hB hg6) hg6) hg6⟩
  all_goals
      refine start_ (n := 7) (S := fun w' => w'.cell? ⟨g3, 0, none⟩ = some (.float .f32 ax) ∧ w'.cell? ⟨g3, 1, none⟩ = some (.float .f32 ay) ∧ w'.cell? ⟨g3, 2, none⟩ = some (.float .f32 aa) ∧ w'.cell? ⟨g4, 0, none⟩ = some (.float .f32 bx) ∧ w'.cell? ⟨g4, 1, none⟩ = some (.float .f32 by_) ∧ w'.cell? ⟨g4, 2, none⟩ = some (.float .f32 ba)) (ds := []) #[false, false, false, false, false, false, false] (by kernel_rfl) rfl rfl ⟨cg3_0, cg3_1, cg3_2, cg4_0, cg4_1, cg4_2⟩ (fun hHeld => ?_)
      refine pure_ (i := 0) (N := some 29) (v := ?_) (a' := ?_) #[true, false, false, false, false, false, false] rfl rfl (by kernel_rfl) (fun _ _ _ h => h) (Or.inl ⟨by rfl, ?_⟩) ?_ ?_
      rotate_left
      · intro w'
        go_simp
        with_reducible rfl
      rotate_left
      · simp only [Act.put, List.setIfInBounds_toArray, List.set_cons_zero, List.set_cons_succ, i64_w, i32_w]
        rfl
      refine pure_ (i := 2) (N := some 31) (v := ?_) (a' := ?_) #[true, false, true, false, false, false, false] rfl rfl (by kernel_rfl) (fun _ _ _ h => h) (Or.inl ⟨by rfl, ?_⟩) ?_ ?_
      rotate_left
      · intro w'
        go_simp
        with_reducible rfl
      rotate_left
      · simp only [Act.put, List.setIfInBounds_toArray, List.set_cons_zero, List.set_cons_succ, i64_w, i32_w]
        rfl
      refine pure_ (i := 3) (N := some 32) (v := ?_) (a' := ?_) #[true, false, true, true, false, false, false] rfl rfl (by kernel_rfl) (fun _ _ _ h => h) (Or.inl ⟨by rfl, ?_⟩) ?_ ?_
      rotate_left
      · intro w'
        go_simp
        with_reducible rfl
      rotate_left
      · simp only [Act.put, List.setIfInBounds_toArray, List.set_cons_zero, List.set_cons_succ, i64_w, i32_w]
        rfl
      refine take_ (i := 1) (N := some 30) (v := ?_) (a' := ?_) #[true, true, true, true, false, false, false] rfl rfl (by kernel_rfl) (fun _ _ _ h => h) (Or.inl ⟨by rfl, ?_⟩) hHeld ?_ ?_
      rotate_left
      · rintro w' ⟨s0, s1, s2, s3, s4, s5⟩
        go_simp
        with_reducible rfl
      rotate_left
      · simp only [Act.put, List.setIfInBounds_toArray, List.set_cons_zero, List.set_cons_succ, i64_w, i32_w]
        rfl
      refine one_ (i := 4) (N := some 33) #[true, true, true, true, true, false, false] rfl rfl (by kernel_rfl) (by decide) (fun K hK => ?_)
      refine goes_ Try.func33 (by kernel_rfl) rfl _ (by rfl) rfl rfl (by simp only [List.map_toArray, List.map_cons, List.map_nil]; rfl) ?_
      refine (times_calls _ _ _ _ (by first | assumption | exact Fe.refl _) (by first | assumption | exact Fe.refl _) _).mono ?_
      rintro e w8 ⟨z1, hz1, rfl, hd1⟩
      refine ⟨_, rfl, ?_⟩
      have Xg3 := dblk hd1 Xg3
      have Xg4 := dblk hd1 Xg4
      have Xg6 := dblk hd1 Xg6
      have hB := dbelow hd1 (below_drew1 hB)
      refine hK.out _ _ ⟨dcell hd1 (hHeld.1), dcell hd1 (hHeld.2.1), dcell hd1 (hHeld.2.2.1), dcell hd1 (hHeld.2.2.2.1), dcell hd1 (hHeld.2.2.2.2.1), dcell hd1 (hHeld.2.2.2.2.2)⟩ (fun hHeld => ?_)
      clear hK K
      refine norm_ (a' := ?_) ?_ ?_
      rotate_left
      · show Act.put _ (some 33) _ = _
        simp only [Act.put, List.setIfInBounds_toArray, List.set_cons_zero, List.set_cons_succ, i64_w, i32_w]
        rfl
      refine one_ (i := 5) (N := some 34) #[true, true, true, true, true, true, false] rfl rfl (by kernel_rfl) (by decide) (fun K hK => ?_)
      refine goes_ Try.func32 (by kernel_rfl) rfl _ (by rfl) rfl rfl (by simp only [List.map_toArray, List.map_cons, List.map_nil]; rfl) ?_
      refine (plus_calls _ _ _ _ (by first | assumption | exact Fe.refl _) (by first | assumption | exact Fe.refl _) _).mono ?_
      rintro e w8 ⟨z2, hz2, rfl, hd2⟩
      refine ⟨_, rfl, ?_⟩
      have Xg3 := dblk hd2 Xg3
      have Xg4 := dblk hd2 Xg4
      have Xg6 := dblk hd2 Xg6
      have hB := dbelow hd2 hB
      refine hK.out _ _ ⟨dcell hd2 (hHeld.1), dcell hd2 (hHeld.2.1), dcell hd2 (hHeld.2.2.1), dcell hd2 (hHeld.2.2.2.1), dcell hd2 (hHeld.2.2.2.2.1), dcell hd2 (hHeld.2.2.2.2.2)⟩ (fun hHeld => ?_)
      clear hK K
      refine norm_ (a' := ?_) ?_ ?_
      rotate_left
      · show Act.put _ (some 34) _ = _
        simp only [Act.put, List.setIfInBounds_toArray, List.set_cons_zero, List.set_cons_succ, i64_w, i32_w]
        rfl
      refine pure_ (i := 6) (N := some 8) (v := ?_) (a' := ?_) #[true, true, true, true, true, true, true] rfl rfl (by kernel_rfl) (fun _ _ _ h => h) (Or.inl ⟨by rfl, ?_⟩) ?_ ?_
      rotate_left
      · intro w'
        go_simp
        with_reducible rfl
      rotate_left
      · simp only [Act.put, List.setIfInBounds_toArray, List.set_cons_zero, List.set_cons_succ, i64_w, i32_w]
        rfl
      refine done_ (by kernel_rfl) ?_

      have cg3_0 : w8.cell? ⟨g3, 0, none⟩ = some (.float .f32 ax) := (blk_cell Xg3 0).trans rfl
      have cg3_1 : w8.cell? ⟨g3, 1, none⟩ = some (.float .f32 ay) := (blk_cell Xg3 1).trans rfl
      have cg3_2 : w8.cell? ⟨g3, 2, none⟩ = some (.float .f32 aa) := (blk_cell Xg3 2).trans rfl
      have fg3_0 := blk_frozen Xg3 0
      have fg3_1 := blk_frozen Xg3 1
      have fg3_2 := blk_frozen Xg3 2
      have cg4_0 : w8.cell? ⟨g4, 0, none⟩ = some (.float .f32 bx) := (blk_cell Xg4 0).trans rfl
      have cg4_1 : w8.cell? ⟨g4, 1, none⟩ = some (.float .f32 by_) := (blk_cell Xg4 1).trans rfl
      have cg4_2 : w8.cell? ⟨g4, 2, none⟩ = some (.float .f32 ba) := (blk_cell Xg4 2).trans rfl
      have fg4_0 := blk_frozen Xg4 0
      have fg4_1 := blk_frozen Xg4 1
      have fg4_2 := blk_frozen Xg4 2
      have cg6_0 : w8.cell? ⟨g6, 0, none⟩ = some (.float .f32 0) := (blk_cell Xg6 0).trans rfl
      have cg6_1 : w8.cell? ⟨g6, 1, none⟩ = some (.float .f32 0) := (blk_cell Xg6 1).trans rfl
      have cg6_2 : w8.cell? ⟨g6, 2, none⟩ = some (.float .f32 0) := (blk_cell Xg6 2).trans rfl
      have fg6_0 := blk_frozen Xg6 0
      have fg6_1 := blk_frozen Xg6 1
      have fg6_2 := blk_frozen Xg6 2
      go_wp2_with (first
      | ((try (refine gate_guard (by rfl) ?_; dsimp only)); refine wpList_fl _ rfl _ _ _ _ _ rfl (by decide) _ _ _ _ rfl rfl (by first | assumption | exact Fe.refl _) (by first | assumption | exact Fe.refl _) ?_; intro z nd hz)
      | ((try (refine gate_guard (by rfl) ?_; dsimp only)); refine wpList_flc _ rfl _ _ _ _ _ rfl (by decide) _ _ _ _ rfl rfl (by first | assumption | exact Fe.refl _) (by first | assumption | exact Fe.refl _) ?_)
      | (go_at_call 31; refine (less_calls _ _ _ _ (by first | assumption | exact Fe.refl _) (by first | assumption | exact Fe.refl _) _).mono ?_; rintro e w7 ⟨z, hz, rfl, hd⟩; have Xg3 := dblk hd Xg3; have Xg4 := dblk hd Xg4; have Xg6 := dblk hd Xg6; have hB := dbelow hd hB; have cg3_0 : w7.cell? ⟨g3, 0, none⟩ = some (.float .f32 ax) := (blk_cell Xg3 0).trans rfl; have cg3_1 : w7.cell? ⟨g3, 1, none⟩ = some (.float .f32 ay) := (blk_cell Xg3 1).trans rfl; have cg3_2 : w7.cell? ⟨g3, 2, none⟩ = some (.float .f32 aa) := (blk_cell Xg3 2).trans rfl; have fg3_0 := blk_frozen Xg3 0; have fg3_1 := blk_frozen Xg3 1; have fg3_2 := blk_frozen Xg3 2; have cg4_0 : w7.cell? ⟨g4, 0, none⟩ = some (.float .f32 bx) := (blk_cell Xg4 0).trans rfl; have cg4_1 : w7.cell? ⟨g4, 1, none⟩ = some (.float .f32 by_) := (blk_cell Xg4 1).trans rfl; have cg4_2 : w7.cell? ⟨g4, 2, none⟩ = some (.float .f32 ba) := (blk_cell Xg4 2).trans rfl; have fg4_0 := blk_frozen Xg4 0; have fg4_1 := blk_frozen Xg4 1; have fg4_2 := blk_frozen Xg4 2; have cg6_0 : w7.cell? ⟨g6, 0, none⟩ = some (.float .f32 0) := (blk_cell Xg6 0).trans rfl; have cg6_1 : w7.cell? ⟨g6, 1, none⟩ = some (.float .f32 0) := (blk_cell Xg6 1).trans rfl; have cg6_2 : w7.cell? ⟨g6, 2, none⟩ = some (.float .f32 0) := (blk_cell Xg6 2).trans rfl; have fg6_0 := blk_frozen Xg6 0; have fg6_1 := blk_frozen Xg6 1; have fg6_2 := blk_frozen Xg6 2)
      | (go_at_call 32; refine (plus_calls _ _ _ _ (by first | assumption | exact Fe.refl _) (by first | assumption | exact Fe.refl _) _).mono ?_; rintro e w7 ⟨z, hz, rfl, hd⟩; have Xg3 := dblk hd Xg3; have Xg4 := dblk hd Xg4; have Xg6 := dblk hd Xg6; have hB := dbelow hd hB; have cg3_0 : w7.cell? ⟨g3, 0, none⟩ = some (.float .f32 ax) := (blk_cell Xg3 0).trans rfl; have cg3_1 : w7.cell? ⟨g3, 1, none⟩ = some (.float .f32 ay) := (blk_cell Xg3 1).trans rfl; have cg3_2 : w7.cell? ⟨g3, 2, none⟩ = some (.float .f32 aa) := (blk_cell Xg3 2).trans rfl; have fg3_0 := blk_frozen Xg3 0; have fg3_1 := blk_frozen Xg3 1; have fg3_2 := blk_frozen Xg3 2; have cg4_0 : w7.cell? ⟨g4, 0, none⟩ = some (.float .f32 bx) := (blk_cell Xg4 0).trans rfl; have cg4_1 : w7.cell? ⟨g4, 1, none⟩ = some (.float .f32 by_) := (blk_cell Xg4 1).trans rfl; have cg4_2 : w7.cell? ⟨g4, 2, none⟩ = some (.float .f32 ba) := (blk_cell Xg4 2).trans rfl; have fg4_0 := blk_frozen Xg4 0; have fg4_1 := blk_frozen Xg4 1; have fg4_2 := blk_frozen Xg4 2; have cg6_0 : w7.cell? ⟨g6, 0, none⟩ = some (.float .f32 0) := (blk_cell Xg6 0).trans rfl; have cg6_1 : w7.cell? ⟨g6, 1, none⟩ = some (.float .f32 0) := (blk_cell Xg6 1).trans rfl; have cg6_2 : w7.cell? ⟨g6, 2, none⟩ = some (.float .f32 0) := (blk_cell Xg6 2).trans rfl; have fg6_0 := blk_frozen Xg6 0; have fg6_1 := blk_frozen Xg6 1; have fg6_2 := blk_frozen Xg6 2))
      all_goals
        refine start_ (n := 23) (S := fun w' => w'.cell? ⟨g3, 0, none⟩ = some (.float .f32 ax) ∧ w'.cell? ⟨g3, 1, none⟩ = some (.float .f32 ay) ∧ w'.cell? ⟨g3, 2, none⟩ = some (.float .f32 aa) ∧ w'.cell? ⟨g4, 0, none⟩ = some (.float .f32 bx) ∧ w'.cell? ⟨g4, 1, none⟩ = some (.float .f32 by_) ∧ w'.cell? ⟨g4, 2, none⟩ = some (.float .f32 ba)) (ds := [22]) #[false, false, false, false, false, false, false, false, false, false, false, false, false, false, false, false, false, false, false, false, false, false, false] (by kernel_rfl) rfl rfl ⟨cg3_0, cg3_1, cg3_2, cg4_0, cg4_1, cg4_2⟩ (fun hHeld => ?_)
        refine pure_ (i := 0) (N := some 45) (v := ?_) (a' := ?_) #[true, false, false, false, false, false, false, false, false, false, false, false, false, false, false, false, false, false, false, false, false, false, false] rfl rfl (by kernel_rfl) (fun _ _ _ h => h) (Or.inl ⟨by rfl, ?_⟩) ?_ ?_
        rotate_left
        · intro w'
          go_simp
          with_reducible rfl
        rotate_left
        · simp only [Act.put, List.setIfInBounds_toArray, List.set_cons_zero, List.set_cons_succ, i64_w, i32_w]
          rfl
        refine pure_ (i := 2) (N := some 47) (v := ?_) (a' := ?_) #[true, false, true, false, false, false, false, false, false, false, false, false, false, false, false, false, false, false, false, false, false, false, false] rfl rfl (by kernel_rfl) (fun _ _ _ h => h) (Or.inl ⟨by rfl, ?_⟩) ?_ ?_
        rotate_left
        · intro w'
          go_simp
          with_reducible rfl
        rotate_left
        · simp only [Act.put, List.setIfInBounds_toArray, List.set_cons_zero, List.set_cons_succ, i64_w, i32_w]
          rfl
        refine pure_ (i := 4) (N := some 49) (v := ?_) (a' := ?_) #[true, false, true, false, true, false, false, false, false, false, false, false, false, false, false, false, false, false, false, false, false, false, false] rfl rfl (by kernel_rfl) (fun _ _ _ h => h) (Or.inl ⟨by rfl, ?_⟩) ?_ ?_
        rotate_left
        · intro w'
          go_simp
          with_reducible rfl
        rotate_left
        · simp only [Act.put, List.setIfInBounds_toArray, List.set_cons_zero, List.set_cons_succ, i64_w, i32_w]
          rfl
        refine pure_ (i := 7) (N := some 52) (v := ?_) (a' := ?_) #[true, false, true, false, true, false, false, true, false, false, false, false, false, false, false, false, false, false, false, false, false, false, false] rfl rfl (by kernel_rfl) (fun _ _ _ h => h) (Or.inl ⟨by rfl, ?_⟩) ?_ ?_
        rotate_left
        · intro w'
          go_simp
          with_reducible rfl
        rotate_left
        · simp only [Act.put, List.setIfInBounds_toArray, List.set_cons_zero, List.set_cons_succ, i64_w, i32_w]
          rfl
        refine pure_ (i := 10) (N := some 55) (v := ?_) (a' := ?_) #[true, false, true, false, true, false, false, true, false, false, true, false, false, false, false, false, false, false, false, false, false, false, false] rfl rfl (by kernel_rfl) (fun _ _ _ h => h) (Or.inl ⟨by rfl, ?_⟩) ?_ ?_
        rotate_left
        · intro w'
          go_simp
          with_reducible rfl
        rotate_left
        · simp only [Act.put, List.setIfInBounds_toArray, List.set_cons_zero, List.set_cons_succ, i64_w, i32_w]
          rfl
        refine pure_ (i := 12) (N := some 57) (v := ?_) (a' := ?_) #[true, false, true, false, true, false, false, true, false, false, true, false, true, false, false, false, false, false, false, false, false, false, false] rfl rfl (by kernel_rfl) (fun _ _ _ h => h) (Or.inl ⟨by rfl, ?_⟩) ?_ ?_
        rotate_left
        · intro w'
          go_simp
          with_reducible rfl
        rotate_left
        · simp only [Act.put, List.setIfInBounds_toArray, List.set_cons_zero, List.set_cons_succ, i64_w, i32_w]
          rfl
        refine pure_ (i := 14) (N := some 59) (v := ?_) (a' := ?_) #[true, false, true, false, true, false, false, true, false, false, true, false, true, false, true, false, false, false, false, false, false, false, false] rfl rfl (by kernel_rfl) (fun _ _ _ h => h) (Or.inl ⟨by rfl, ?_⟩) ?_ ?_
        rotate_left
        · intro w'
          go_simp
          with_reducible rfl
        rotate_left
        · simp only [Act.put, List.setIfInBounds_toArray, List.set_cons_zero, List.set_cons_succ, i64_w, i32_w]
          rfl
        refine pure_ (i := 17) (N := some 62) (v := ?_) (a' := ?_) #[true, false, true, false, true, false, false, true, false, false, true, false, true, false, true, false, false, true, false, false, false, false, false] rfl rfl (by kernel_rfl) (fun _ _ _ h => h) (Or.inl ⟨by rfl, ?_⟩) ?_ ?_
        rotate_left
        · intro w'
          go_simp
          with_reducible rfl
        rotate_left
        · simp only [Act.put, List.setIfInBounds_toArray, List.set_cons_zero, List.set_cons_succ, i64_w, i32_w]
          rfl
        refine pure_ (i := 20) (N := some 65) (v := ?_) (a' := ?_) #[true, false, true, false, true, false, false, true, false, false, true, false, true, false, true, false, false, true, false, false, true, false, false] rfl rfl (by kernel_rfl) (fun _ _ _ h => h) (Or.inl ⟨by rfl, ?_⟩) ?_ ?_
        rotate_left
        · intro w'
          go_simp
          with_reducible rfl
        rotate_left
        · simp only [Act.put, List.setIfInBounds_toArray, List.set_cons_zero, List.set_cons_succ, i64_w, i32_w]
          rfl
        refine take_ (i := 1) (N := some 46) (v := ?_) (a' := ?_) #[true, true, true, false, true, false, false, true, false, false, true, false, true, false, true, false, false, true, false, false, true, false, false] rfl rfl (by kernel_rfl) (fun _ _ _ h => h) (Or.inl ⟨by rfl, ?_⟩) hHeld ?_ ?_
        rotate_left
        · rintro w' ⟨s0, s1, s2, s3, s4, s5⟩
          go_simp
          with_reducible rfl
        rotate_left
        · simp only [Act.put, List.setIfInBounds_toArray, List.set_cons_zero, List.set_cons_succ, i64_w, i32_w]
          rfl
        refine take_ (i := 3) (N := some 48) (v := ?_) (a' := ?_) #[true, true, true, true, true, false, false, true, false, false, true, false, true, false, true, false, false, true, false, false, true, false, false] rfl rfl (by kernel_rfl) (fun _ _ _ h => h) (Or.inl ⟨by rfl, ?_⟩) hHeld ?_ ?_
        rotate_left
        · rintro w' ⟨s0, s1, s2, s3, s4, s5⟩
          go_simp
          with_reducible rfl
        rotate_left
        · simp only [Act.put, List.setIfInBounds_toArray, List.set_cons_zero, List.set_cons_succ, i64_w, i32_w]
          rfl
        refine take_ (i := 5) (N := some 50) (v := ?_) (a' := ?_) #[true, true, true, true, true, true, false, true, false, false, true, false, true, false, true, false, false, true, false, false, true, false, false] rfl rfl (by kernel_rfl) (fun _ _ _ h => h) (Or.inl ⟨by rfl, ?_⟩) hHeld ?_ ?_
        rotate_left
        · rintro w' ⟨s0, s1, s2, s3, s4, s5⟩
          go_simp
          with_reducible rfl
        rotate_left
        · simp only [Act.put, List.setIfInBounds_toArray, List.set_cons_zero, List.set_cons_succ, i64_w, i32_w]
          rfl
        refine take_ (i := 11) (N := some 56) (v := ?_) (a' := ?_) #[true, true, true, true, true, true, false, true, false, false, true, true, true, false, true, false, false, true, false, false, true, false, false] rfl rfl (by kernel_rfl) (fun _ _ _ h => h) (Or.inl ⟨by rfl, ?_⟩) hHeld ?_ ?_
        rotate_left
        · rintro w' ⟨s0, s1, s2, s3, s4, s5⟩
          go_simp
          with_reducible rfl
        rotate_left
        · simp only [Act.put, List.setIfInBounds_toArray, List.set_cons_zero, List.set_cons_succ, i64_w, i32_w]
          rfl
        refine take_ (i := 13) (N := some 58) (v := ?_) (a' := ?_) #[true, true, true, true, true, true, false, true, false, false, true, true, true, true, true, false, false, true, false, false, true, false, false] rfl rfl (by kernel_rfl) (fun _ _ _ h => h) (Or.inl ⟨by rfl, ?_⟩) hHeld ?_ ?_
        rotate_left
        · rintro w' ⟨s0, s1, s2, s3, s4, s5⟩
          go_simp
          with_reducible rfl
        rotate_left
        · simp only [Act.put, List.setIfInBounds_toArray, List.set_cons_zero, List.set_cons_succ, i64_w, i32_w]
          rfl
        refine take_ (i := 15) (N := some 60) (v := ?_) (a' := ?_) #[true, true, true, true, true, true, false, true, false, false, true, true, true, true, true, true, false, true, false, false, true, false, false] rfl rfl (by kernel_rfl) (fun _ _ _ h => h) (Or.inl ⟨by rfl, ?_⟩) hHeld ?_ ?_
        rotate_left
        · rintro w' ⟨s0, s1, s2, s3, s4, s5⟩
          go_simp
          with_reducible rfl
        rotate_left
        · simp only [Act.put, List.setIfInBounds_toArray, List.set_cons_zero, List.set_cons_succ, i64_w, i32_w]
          rfl
        refine one_ (i := 6) (N := some 51) #[true, true, true, true, true, true, true, true, false, false, true, true, true, true, true, true, false, true, false, false, true, false, false] rfl rfl (by kernel_rfl) (by decide) (fun K hK => ?_)
        refine goes_ Try.func31 (by kernel_rfl) rfl _ (by rfl) rfl rfl (by simp only [List.map_toArray, List.map_cons, List.map_nil]; rfl) ?_
        refine (less_calls _ _ _ _ (by first | assumption | exact Fe.refl _) (by first | assumption | exact Fe.refl _) _).mono ?_
        rintro e w8 ⟨z3, hz3, rfl, hd3⟩
        refine ⟨_, rfl, ?_⟩
        have Xg3 := dblk hd3 Xg3
        have Xg4 := dblk hd3 Xg4
        have Xg6 := dblk hd3 Xg6
        have hB := dbelow hd3 (below_drew1 hB)
        refine hK.out _ _ ⟨dcell hd3 (hHeld.1), dcell hd3 (hHeld.2.1), dcell hd3 (hHeld.2.2.1), dcell hd3 (hHeld.2.2.2.1), dcell hd3 (hHeld.2.2.2.2.1), dcell hd3 (hHeld.2.2.2.2.2)⟩ (fun hHeld => ?_)
        clear hK K
        refine norm_ (a' := ?_) ?_ ?_
        rotate_left
        · show Act.put _ (some 51) _ = _
          simp only [Act.put, List.setIfInBounds_toArray, List.set_cons_zero, List.set_cons_succ, i64_w, i32_w]
          rfl
        refine one_ (i := 8) (N := some 53) #[true, true, true, true, true, true, true, true, true, false, true, true, true, true, true, true, false, true, false, false, true, false, false] rfl rfl (by kernel_rfl) (by decide) (fun K hK => ?_)
        refine goes_ Try.func33 (by kernel_rfl) rfl _ (by rfl) rfl rfl (by simp only [List.map_toArray, List.map_cons, List.map_nil]; rfl) ?_
        refine (times_calls _ _ _ _ (by first | assumption | exact Fe.refl _) (by first | assumption | exact Fe.refl _) _).mono ?_
        rintro e w8 ⟨z4, hz4, rfl, hd4⟩
        refine ⟨_, rfl, ?_⟩
        have Xg3 := dblk hd4 Xg3
        have Xg4 := dblk hd4 Xg4
        have Xg6 := dblk hd4 Xg6
        have hB := dbelow hd4 hB
        refine hK.out _ _ ⟨dcell hd4 (hHeld.1), dcell hd4 (hHeld.2.1), dcell hd4 (hHeld.2.2.1), dcell hd4 (hHeld.2.2.2.1), dcell hd4 (hHeld.2.2.2.2.1), dcell hd4 (hHeld.2.2.2.2.2)⟩ (fun hHeld => ?_)
        clear hK K
        refine norm_ (a' := ?_) ?_ ?_
        rotate_left
        · show Act.put _ (some 53) _ = _
          simp only [Act.put, List.setIfInBounds_toArray, List.set_cons_zero, List.set_cons_succ, i64_w, i32_w]
          rfl
        refine one_ (i := 9) (N := some 54) #[true, true, true, true, true, true, true, true, true, true, true, true, true, true, true, true, false, true, false, false, true, false, false] rfl rfl (by kernel_rfl) (by decide) (fun K hK => ?_)
        refine goes_ Try.func32 (by kernel_rfl) rfl _ (by rfl) rfl rfl (by simp only [List.map_toArray, List.map_cons, List.map_nil]; rfl) ?_
        refine (plus_calls _ _ _ _ (by first | assumption | exact Fe.refl _) (by first | assumption | exact Fe.refl _) _).mono ?_
        rintro e w8 ⟨z5, hz5, rfl, hd5⟩
        refine ⟨_, rfl, ?_⟩
        have Xg3 := dblk hd5 Xg3
        have Xg4 := dblk hd5 Xg4
        have Xg6 := dblk hd5 Xg6
        have hB := dbelow hd5 hB
        refine hK.out _ _ ⟨dcell hd5 (hHeld.1), dcell hd5 (hHeld.2.1), dcell hd5 (hHeld.2.2.1), dcell hd5 (hHeld.2.2.2.1), dcell hd5 (hHeld.2.2.2.2.1), dcell hd5 (hHeld.2.2.2.2.2)⟩ (fun hHeld => ?_)
        clear hK K
        refine norm_ (a' := ?_) ?_ ?_
        rotate_left
        · show Act.put _ (some 54) _ = _
          simp only [Act.put, List.setIfInBounds_toArray, List.set_cons_zero, List.set_cons_succ, i64_w, i32_w]
          rfl
        refine one_ (i := 16) (N := some 61) #[true, true, true, true, true, true, true, true, true, true, true, true, true, true, true, true, true, true, false, false, true, false, false] rfl rfl (by kernel_rfl) (by decide) (fun K hK => ?_)
        refine goes_ Try.func31 (by kernel_rfl) rfl _ (by rfl) rfl rfl (by simp only [List.map_toArray, List.map_cons, List.map_nil]; rfl) ?_
        refine (less_calls _ _ _ _ (by first | assumption | exact Fe.refl _) (by first | assumption | exact Fe.refl _) _).mono ?_
        rintro e w8 ⟨z6, hz6, rfl, hd6⟩
        refine ⟨_, rfl, ?_⟩
        have Xg3 := dblk hd6 Xg3
        have Xg4 := dblk hd6 Xg4
        have Xg6 := dblk hd6 Xg6
        have hB := dbelow hd6 hB
        refine hK.out _ _ ⟨dcell hd6 (hHeld.1), dcell hd6 (hHeld.2.1), dcell hd6 (hHeld.2.2.1), dcell hd6 (hHeld.2.2.2.1), dcell hd6 (hHeld.2.2.2.2.1), dcell hd6 (hHeld.2.2.2.2.2)⟩ (fun hHeld => ?_)
        clear hK K
        refine norm_ (a' := ?_) ?_ ?_
        rotate_left
        · show Act.put _ (some 61) _ = _
          simp only [Act.put, List.setIfInBounds_toArray, List.set_cons_zero, List.set_cons_succ, i64_w, i32_w]
          rfl
        refine one_ (i := 18) (N := some 63) #[true, true, true, true, true, true, true, true, true, true, true, true, true, true, true, true, true, true, true, false, true, false, false] rfl rfl (by kernel_rfl) (by decide) (fun K hK => ?_)
        refine goes_ Try.func33 (by kernel_rfl) rfl _ (by rfl) rfl rfl (by simp only [List.map_toArray, List.map_cons, List.map_nil]; rfl) ?_
        refine (times_calls _ _ _ _ (by first | assumption | exact Fe.refl _) (by first | assumption | exact Fe.refl _) _).mono ?_
        rintro e w8 ⟨z7, hz7, rfl, hd7⟩
        refine ⟨_, rfl, ?_⟩
        have Xg3 := dblk hd7 Xg3
        have Xg4 := dblk hd7 Xg4
        have Xg6 := dblk hd7 Xg6
        have hB := dbelow hd7 hB
        refine hK.out _ _ ⟨dcell hd7 (hHeld.1), dcell hd7 (hHeld.2.1), dcell hd7 (hHeld.2.2.1), dcell hd7 (hHeld.2.2.2.1), dcell hd7 (hHeld.2.2.2.2.1), dcell hd7 (hHeld.2.2.2.2.2)⟩ (fun hHeld => ?_)
        clear hK K
        refine norm_ (a' := ?_) ?_ ?_
        rotate_left
        · show Act.put _ (some 63) _ = _
          simp only [Act.put, List.setIfInBounds_toArray, List.set_cons_zero, List.set_cons_succ, i64_w, i32_w]
          rfl
        refine one_ (i := 19) (N := some 64) #[true, true, true, true, true, true, true, true, true, true, true, true, true, true, true, true, true, true, true, true, true, false, false] rfl rfl (by kernel_rfl) (by decide) (fun K hK => ?_)
        refine goes_ Try.func32 (by kernel_rfl) rfl _ (by rfl) rfl rfl (by simp only [List.map_toArray, List.map_cons, List.map_nil]; rfl) ?_
        refine (plus_calls _ _ _ _ (by first | assumption | exact Fe.refl _) (by first | assumption | exact Fe.refl _) _).mono ?_
        rintro e w8 ⟨z8, hz8, rfl, hd8⟩
        refine ⟨_, rfl, ?_⟩
        have Xg3 := dblk hd8 Xg3
        have Xg4 := dblk hd8 Xg4
        have Xg6 := dblk hd8 Xg6
        have hB := dbelow hd8 hB
        refine hK.out _ _ ⟨dcell hd8 (hHeld.1), dcell hd8 (hHeld.2.1), dcell hd8 (hHeld.2.2.1), dcell hd8 (hHeld.2.2.2.1), dcell hd8 (hHeld.2.2.2.2.1), dcell hd8 (hHeld.2.2.2.2.2)⟩ (fun hHeld => ?_)
        clear hK K
        refine norm_ (a' := ?_) ?_ ?_
        rotate_left
        · show Act.put _ (some 64) _ = _
          simp only [Act.put, List.setIfInBounds_toArray, List.set_cons_zero, List.set_cons_succ, i64_w, i32_w]
          rfl
        refine pure_ (i := 21) (N := some 66) (v := ?_) (a' := ?_) #[true, true, true, true, true, true, true, true, true, true, true, true, true, true, true, true, true, true, true, true, true, true, false] rfl rfl (by kernel_rfl) (fun _ _ _ h => h) (Or.inl ⟨by rfl, ?_⟩) ?_ ?_
        rotate_left
        · intro w'
          go_simp
          with_reducible rfl
        rotate_left
        · simp only [Act.put, List.setIfInBounds_toArray, List.set_cons_zero, List.set_cons_succ, i64_w, i32_w]
          rfl
        refine last_ (i := 22) (N := none) #[true, true, true, true, true, true, true, true, true, true, true, true, true, true, true, true, true, true, true, true, true, true, true] rfl rfl (by kernel_rfl) (by decide) (fun K hK => ?_)
        have cg6_0 : w8.cell? ⟨g6, 0, none⟩ = some (.float .f32 0) := (blk_cell Xg6 0).trans rfl
        have cg6_1 : w8.cell? ⟨g6, 1, none⟩ = some (.float .f32 0) := (blk_cell Xg6 1).trans rfl
        have cg6_2 : w8.cell? ⟨g6, 2, none⟩ = some (.float .f32 0) := (blk_cell Xg6 2).trans rfl
        have fg6_0 := blk_frozen Xg6 0
        have fg6_1 := blk_frozen Xg6 1
        have fg6_2 := blk_frozen Xg6 2
        refine skip_ (w1 := ?_) (by rfl) rfl ?_ ?_
        rotate_left
        · go_simp
          rfl
        refine hK.out _ _ ?_
        clear hK K
        refine done_ (by kernel_rfl) ?_
  
        go_wp2
        (try simp only [Exit.inBlock, Exit.then]); refine bodyPost_ret (results_cell_row rfl _ _ g6 24 #[.float .f32 z5, .float .f32 z8, .float .f32 _] (0, 0) _ rfl (blk_put (blk_put (blk_put Xg6 0 _ rfl) 1 _ rfl) 2 _ rfl) Try.underlying24 rfl (by kernel_rfl)) rfl ?_
        refine ⟨z5, z8, _, ?_, ?_, ?_, rfl, below_set (below_set (below_set hB hg6) hg6) hg6⟩
        · simp_all [mixS, share]
        · simp_all [mixS, share]
        · have c0 : fcmp .gtr t 0 = true := by simpa using (by assumption : (!fcmp BinOp.gtr t 0) = false)
          simp only [mixA, angle, turned, under, over, *, Bool.false_eq_true, if_true, if_false] <;> first | assumption | exact Fe.refl _
end Go.Proofs.Ytjffkidfoapbjaa.Fl
