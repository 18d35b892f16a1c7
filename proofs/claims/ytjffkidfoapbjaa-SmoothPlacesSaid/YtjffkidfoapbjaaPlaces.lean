/- Proved: the walk of SmoothPlaces: true for every car whose heading is an int, and every word of ticks. -/
import Derived.Test.YtjffkidfoapbjaaRefAhead
import Derived.Test.YtjffkidfoapbjaaOne
import Derived.Test.YtjffkidfoapbjaaAlive
namespace Go.Proofs.Ytjffkidfoapbjaa.Fl
open Go.RowKit Go.Proofs.YtjffkidfoapbjaaW.PrintWords Go.Proofs.YtjffkidfoapbjaaW.PrintLast Go.Proofs.YtjffkidfoapbjaaW.PrintMore
set_option linter.unusedVariables false
set_option linter.unusedSimpArgs false
attribute [local go_sem] run_store_float

set_option maxHeartbeats 8000000 in
set_option maxRecDepth 100000 in
theorem places.calls (pl x y vx vy hd he en am co wt sp sc : Int) (nm : ByteArray) (t : Nat) (hd0 : -9223372036854775808 ≤ hd) (hd1 : hd ≤ 9223372036854775807) (ht : t < 4294967296) (w : World) : Calls Try.prog 6 #[.agg #[.int .i64 pl, .string nm, .int .i64 x, .int .i64 y, .int .i64 vx, .int .i64 vy, .int .i64 hd, .int .i64 he, .int .i64 en, .int .i64 am, .int .i64 co, .int .i64 wt, .int .i64 sp, .int .i64 sc], .float .f32 t] w fun e w' => e = .returned (.bool true) ∧ Below w.heap.size w w' := by
  have hu40 := Try.underlying40
  have hu38 := Try.underlying38
  have hu24 := Try.underlying24
  have hu22 := Try.underlying22
  have hu3 := Try.underlying3
  go_enter Try.func6, Try.ntmps6
  go_wp2_with (first
      | ((try (refine gate_guard (by rfl) ?_; dsimp only)); refine wpList_fl _ rfl _ _ _ _ _ rfl (by decide) _ _ _ _ rfl rfl (by first | assumption | exact Fe.refl _) (by first | assumption | exact Fe.refl _) ?_; intro z nd hz)
      | ((try (refine gate_guard (by rfl) ?_; dsimp only)); refine wpList_flc _ rfl _ _ _ _ _ rfl (by decide) _ _ _ _ rfl rfl (by first | assumption | exact Fe.refl _) (by first | assumption | exact Fe.refl _) ?_)
      | ((with_reducible refine gate_dst (N := 2) rfl ?_); refine box_event ?hg (N := 2) ?hd (cs := #[.int .i64 pl, .string nm, .int .i64 x, .int .i64 y, .int .i64 vx, .int .i64 vy, .int .i64 hd, .int .i64 he, .int .i64 en, .int .i64 am, .int .i64 co, .int .i64 wt, .int .i64 sp, .int .i64 sc]) (t := 40) ?hr ?_; (case hd => rfl); (case hg => rfl); (case hr => first | (go_simp; done) | (go_simp; rfl)); intro g2 eg2 w3 Xg2 Bg2; have hB := Bg2; clear eg2)
      | (go_at_call 10; refine (alive_calls _).mono ?_; rintro e w5 ⟨rfl, hb⟩; have Xg2 := blk_below Xg2 hb; have hB := below_step hB hb; clear hb; have cg2_0 : w5.cell? ⟨g2, 0, none⟩ = some (.int .i64 pl) := (blk_cell Xg2 0).trans rfl; have cg2_1 : w5.cell? ⟨g2, 1, none⟩ = some (.string nm) := (blk_cell Xg2 1).trans rfl; have cg2_2 : w5.cell? ⟨g2, 2, none⟩ = some (.int .i64 x) := (blk_cell Xg2 2).trans rfl; have cg2_3 : w5.cell? ⟨g2, 3, none⟩ = some (.int .i64 y) := (blk_cell Xg2 3).trans rfl; have cg2_4 : w5.cell? ⟨g2, 4, none⟩ = some (.int .i64 vx) := (blk_cell Xg2 4).trans rfl; have cg2_5 : w5.cell? ⟨g2, 5, none⟩ = some (.int .i64 vy) := (blk_cell Xg2 5).trans rfl; have cg2_6 : w5.cell? ⟨g2, 6, none⟩ = some (.int .i64 hd) := (blk_cell Xg2 6).trans rfl; have cg2_7 : w5.cell? ⟨g2, 7, none⟩ = some (.int .i64 he) := (blk_cell Xg2 7).trans rfl; have cg2_8 : w5.cell? ⟨g2, 8, none⟩ = some (.int .i64 en) := (blk_cell Xg2 8).trans rfl; have cg2_9 : w5.cell? ⟨g2, 9, none⟩ = some (.int .i64 am) := (blk_cell Xg2 9).trans rfl; have cg2_10 : w5.cell? ⟨g2, 10, none⟩ = some (.int .i64 co) := (blk_cell Xg2 10).trans rfl; have cg2_11 : w5.cell? ⟨g2, 11, none⟩ = some (.int .i64 wt) := (blk_cell Xg2 11).trans rfl; have cg2_12 : w5.cell? ⟨g2, 12, none⟩ = some (.int .i64 sp) := (blk_cell Xg2 12).trans rfl; have cg2_13 : w5.cell? ⟨g2, 13, none⟩ = some (.int .i64 sc) := (blk_cell Xg2 13).trans rfl))
  refine start_ (n := 24) (S := fun w' => w'.cell? ⟨g2, 0, none⟩ = some (.int .i64 pl) ∧ w'.cell? ⟨g2, 1, none⟩ = some (.string nm) ∧ w'.cell? ⟨g2, 2, none⟩ = some (.int .i64 x) ∧ w'.cell? ⟨g2, 3, none⟩ = some (.int .i64 y) ∧ w'.cell? ⟨g2, 4, none⟩ = some (.int .i64 vx) ∧ w'.cell? ⟨g2, 5, none⟩ = some (.int .i64 vy) ∧ w'.cell? ⟨g2, 6, none⟩ = some (.int .i64 hd) ∧ w'.cell? ⟨g2, 7, none⟩ = some (.int .i64 he) ∧ w'.cell? ⟨g2, 8, none⟩ = some (.int .i64 en) ∧ w'.cell? ⟨g2, 9, none⟩ = some (.int .i64 am) ∧ w'.cell? ⟨g2, 10, none⟩ = some (.int .i64 co) ∧ w'.cell? ⟨g2, 11, none⟩ = some (.int .i64 wt) ∧ w'.cell? ⟨g2, 12, none⟩ = some (.int .i64 sp) ∧ w'.cell? ⟨g2, 13, none⟩ = some (.int .i64 sc)) (ds := []) #[false, false, false, false, false, false, false, false, false, false, false, false, false, false, false, false, false, false, false, false, false, false, false, false] (by kernel_rfl) rfl rfl ⟨cg2_0, cg2_1, cg2_2, cg2_3, cg2_4, cg2_5, cg2_6, cg2_7, cg2_8, cg2_9, cg2_10, cg2_11, cg2_12, cg2_13⟩ (fun hHeld => ?_)
  refine pure_ (i := 0) (N := some 7) (v := ?_) (a' := ?_) #[true, false, false, false, false, false, false, false, false, false, false, false, false, false, false, false, false, false, false, false, false, false, false, false] rfl rfl (by kernel_rfl) (fun _ _ _ h => h) (Or.inl ⟨by rfl, ?_⟩) ?_ ?_
  rotate_left
  · intro w'
    go_simp
    with_reducible rfl
  rotate_left
  · simp only [Act.put, List.setIfInBounds_toArray, List.set_cons_zero, List.set_cons_succ, i64_w, i32_w]
    rfl
  refine pure_ (i := 2) (N := some 9) (v := ?_) (a' := ?_) #[true, false, true, false, false, false, false, false, false, false, false, false, false, false, false, false, false, false, false, false, false, false, false, false] rfl rfl (by kernel_rfl) (fun _ _ _ h => h) (Or.inl ⟨by rfl, ?_⟩) ?_ ?_
  rotate_left
  · intro w'
    go_simp
    with_reducible rfl
  rotate_left
  · simp only [Act.put, List.setIfInBounds_toArray, List.set_cons_zero, List.set_cons_succ, i64_w, i32_w]
    rfl
  refine pure_ (i := 5) (N := some 12) (v := ?_) (a' := ?_) #[true, false, true, false, false, true, false, false, false, false, false, false, false, false, false, false, false, false, false, false, false, false, false, false] rfl rfl (by kernel_rfl) (fun _ _ _ h => h) (Or.inl ⟨by rfl, ?_⟩) ?_ ?_
  rotate_left
  · intro w'
    go_simp
    with_reducible rfl
  rotate_left
  · simp only [Act.put, List.setIfInBounds_toArray, List.set_cons_zero, List.set_cons_succ, i64_w, i32_w]
    rfl
  refine pure_ (i := 7) (N := some 14) (v := ?_) (a' := ?_) #[true, false, true, false, false, true, false, true, false, false, false, false, false, false, false, false, false, false, false, false, false, false, false, false] rfl rfl (by kernel_rfl) (fun _ _ _ h => h) (Or.inl ⟨by rfl, ?_⟩) ?_ ?_
  rotate_left
  · intro w'
    go_simp
    with_reducible rfl
  rotate_left
  · simp only [Act.put, List.setIfInBounds_toArray, List.set_cons_zero, List.set_cons_succ, i64_w, i32_w]
    rfl
  refine take_ (i := 1) (N := some 8) (v := ?_) (a' := ?_) #[true, true, true, false, false, true, false, true, false, false, false, false, false, false, false, false, false, false, false, false, false, false, false, false] rfl rfl (by kernel_rfl) (fun _ _ _ h => h) (Or.inl ⟨by rfl, ?_⟩) hHeld ?_ ?_
  rotate_left
  · rintro w' ⟨s0, s1, s2, s3, s4, s5, s6, s7, s8, s9, s10, s11, s12, s13⟩
    go_simp
    with_reducible rfl
  rotate_left
  · simp only [Act.put, List.setIfInBounds_toArray, List.set_cons_zero, List.set_cons_succ, i64_w, i32_w]
    rfl
  refine take_ (i := 3) (N := some 10) (v := ?_) (a' := ?_) #[true, true, true, true, false, true, false, true, false, false, false, false, false, false, false, false, false, false, false, false, false, false, false, false] rfl rfl (by kernel_rfl) (fun _ _ _ h => h) (Or.inl ⟨by rfl, ?_⟩) hHeld ?_ ?_
  rotate_left
  · rintro w' ⟨s0, s1, s2, s3, s4, s5, s6, s7, s8, s9, s10, s11, s12, s13⟩
    go_simp
    with_reducible rfl
  rotate_left
  · simp only [Act.put, List.setIfInBounds_toArray, List.set_cons_zero, List.set_cons_succ, i64_w, i32_w]
    rfl
  refine take_ (i := 6) (N := some 13) (v := ?_) (a' := ?_) #[true, true, true, true, false, true, true, true, false, false, false, false, false, false, false, false, false, false, false, false, false, false, false, false] rfl rfl (by kernel_rfl) (fun _ _ _ h => h) (Or.inl ⟨by rfl, ?_⟩) hHeld ?_ ?_
  rotate_left
  · rintro w' ⟨s0, s1, s2, s3, s4, s5, s6, s7, s8, s9, s10, s11, s12, s13⟩
    go_simp
    with_reducible rfl
  rotate_left
  · simp only [Act.put, List.setIfInBounds_toArray, List.set_cons_zero, List.set_cons_succ, i64_w, i32_w]
    rfl
  refine take_ (i := 8) (N := some 15) (v := ?_) (a' := ?_) #[true, true, true, true, false, true, true, true, true, false, false, false, false, false, false, false, false, false, false, false, false, false, false, false] rfl rfl (by kernel_rfl) (fun _ _ _ h => h) (Or.inl ⟨by rfl, ?_⟩) hHeld ?_ ?_
  rotate_left
  · rintro w' ⟨s0, s1, s2, s3, s4, s5, s6, s7, s8, s9, s10, s11, s12, s13⟩
    go_simp
    with_reducible rfl
  rotate_left
  · simp only [Act.put, List.setIfInBounds_toArray, List.set_cons_zero, List.set_cons_succ, i64_w, i32_w]
    rfl
  refine one_ (i := 4) (N := some 11) #[true, true, true, true, true, true, true, true, true, false, false, false, false, false, false, false, false, false, false, false, false, false, false, false] rfl rfl (by kernel_rfl) (by decide) (fun K hK => ?_)
  refine goes_ Try.func20 (by kernel_rfl) rfl _ (by rfl) rfl rfl (by simp only [List.map_toArray, List.map_cons, List.map_nil]; rfl) ?_
  refine (of_calls x y hd _).mono ?_
  rintro e w8 ⟨p1, q1, hp1, hq1, rfl, hb1⟩
  refine ⟨_, rfl, ?_⟩
  have Xg2 := blk_below (blk_drew Xg2) hb1
  have hB := below_step (below_drew1 hB) hb1
  refine hK.out _ _ ⟨pw_cell_below hb1 (hHeld.1), pw_cell_below hb1 (hHeld.2.1), pw_cell_below hb1 (hHeld.2.2.1), pw_cell_below hb1 (hHeld.2.2.2.1), pw_cell_below hb1 (hHeld.2.2.2.2.1), pw_cell_below hb1 (hHeld.2.2.2.2.2.1), pw_cell_below hb1 (hHeld.2.2.2.2.2.2.1), pw_cell_below hb1 (hHeld.2.2.2.2.2.2.2.1), pw_cell_below hb1 (hHeld.2.2.2.2.2.2.2.2.1), pw_cell_below hb1 (hHeld.2.2.2.2.2.2.2.2.2.1), pw_cell_below hb1 (hHeld.2.2.2.2.2.2.2.2.2.2.1), pw_cell_below hb1 (hHeld.2.2.2.2.2.2.2.2.2.2.2.1), pw_cell_below hb1 (hHeld.2.2.2.2.2.2.2.2.2.2.2.2.1), pw_cell_below hb1 (hHeld.2.2.2.2.2.2.2.2.2.2.2.2.2)⟩ (fun hHeld => ?_)
  clear hK K
  refine norm_ (a' := ?_) ?_ ?_
  rotate_left
  · show Act.put _ (some 11) _ = _
    simp only [Act.put, List.setIfInBounds_toArray, List.set_cons_zero, List.set_cons_succ, i64_w, i32_w]
    rfl
  refine one_ (i := 9) (N := some 16) #[true, true, true, true, true, true, true, true, true, true, false, false, false, false, false, false, false, false, false, false, false, false, false, false] rfl rfl (by kernel_rfl) (by decide) (fun K hK => ?_)
  refine goes_ Try.func21 (by kernel_rfl) rfl _ (by rfl) rfl rfl (by simp only [List.map_toArray, List.map_cons, List.map_nil]; rfl) ?_
  refine (refof_calls x y hd hd0 hd1 _).mono ?_
  rintro e w8 ⟨p2, q2, r2, hp2, hq2, hr2, rfl, hb2⟩
  refine ⟨_, rfl, ?_⟩
  have Xg2 := blk_below Xg2 hb2
  have hB := below_step hB hb2
  refine hK.out _ _ ⟨pw_cell_below hb2 (hHeld.1), pw_cell_below hb2 (hHeld.2.1), pw_cell_below hb2 (hHeld.2.2.1), pw_cell_below hb2 (hHeld.2.2.2.1), pw_cell_below hb2 (hHeld.2.2.2.2.1), pw_cell_below hb2 (hHeld.2.2.2.2.2.1), pw_cell_below hb2 (hHeld.2.2.2.2.2.2.1), pw_cell_below hb2 (hHeld.2.2.2.2.2.2.2.1), pw_cell_below hb2 (hHeld.2.2.2.2.2.2.2.2.1), pw_cell_below hb2 (hHeld.2.2.2.2.2.2.2.2.2.1), pw_cell_below hb2 (hHeld.2.2.2.2.2.2.2.2.2.2.1), pw_cell_below hb2 (hHeld.2.2.2.2.2.2.2.2.2.2.2.1), pw_cell_below hb2 (hHeld.2.2.2.2.2.2.2.2.2.2.2.2.1), pw_cell_below hb2 (hHeld.2.2.2.2.2.2.2.2.2.2.2.2.2)⟩ (fun hHeld => ?_)
  clear hK K
  refine norm_ (a' := ?_) ?_ ?_
  rotate_left
  · show Act.put _ (some 16) _ = _
    simp only [Act.put, List.setIfInBounds_toArray, List.set_cons_zero, List.set_cons_succ, i64_w, i32_w]
    rfl
  refine one_ (i := 10) (N := some 17) #[true, true, true, true, true, true, true, true, true, true, true, false, false, false, false, false, false, false, false, false, false, false, false, false] rfl rfl (by kernel_rfl) (by decide) (fun K hK => ?_)
  refine goes_ Try.func11 (by kernel_rfl) rfl _ (by rfl) rfl rfl (by simp only [List.map_toArray, List.map_cons, List.map_nil]; rfl) ?_
  refine (one_calls p1 q1 _ p2 q2 r2 (hp1.trans hp2.symm) (hq1.trans hq2.symm) hr2.symm _).mono ?_
  rintro e w8 ⟨rfl, hb3⟩
  refine ⟨_, rfl, ?_⟩
  have Xg2 := blk_below Xg2 hb3
  have hB := below_step hB hb3
  refine hK.out _ _ ⟨pw_cell_below hb3 (hHeld.1), pw_cell_below hb3 (hHeld.2.1), pw_cell_below hb3 (hHeld.2.2.1), pw_cell_below hb3 (hHeld.2.2.2.1), pw_cell_below hb3 (hHeld.2.2.2.2.1), pw_cell_below hb3 (hHeld.2.2.2.2.2.1), pw_cell_below hb3 (hHeld.2.2.2.2.2.2.1), pw_cell_below hb3 (hHeld.2.2.2.2.2.2.2.1), pw_cell_below hb3 (hHeld.2.2.2.2.2.2.2.2.1), pw_cell_below hb3 (hHeld.2.2.2.2.2.2.2.2.2.1), pw_cell_below hb3 (hHeld.2.2.2.2.2.2.2.2.2.2.1), pw_cell_below hb3 (hHeld.2.2.2.2.2.2.2.2.2.2.2.1), pw_cell_below hb3 (hHeld.2.2.2.2.2.2.2.2.2.2.2.2.1), pw_cell_below hb3 (hHeld.2.2.2.2.2.2.2.2.2.2.2.2.2)⟩ (fun hHeld => ?_)
  clear hK K
  refine norm_ (a' := ?_) ?_ ?_
  rotate_left
  · show Act.put _ (some 17) _ = _
    simp only [Act.put, List.setIfInBounds_toArray, List.set_cons_zero, List.set_cons_succ, i64_w, i32_w]
    rfl
  refine pure_ (i := 11) (N := some 18) (v := ?_) (a' := ?_) #[true, true, true, true, true, true, true, true, true, true, true, true, false, false, false, false, false, false, false, false, false, false, false, false] rfl rfl (by kernel_rfl) (fun _ _ _ h => h) (Or.inl ⟨by rfl, ?_⟩) ?_ ?_
  rotate_left
  · intro w'
    go_simp
    with_reducible rfl
  rotate_left
  · simp only [Act.put, List.setIfInBounds_toArray, List.set_cons_zero, List.set_cons_succ, i64_w, i32_w]
    rfl
  refine pure_ (i := 13) (N := some 20) (v := ?_) (a' := ?_) #[true, true, true, true, true, true, true, true, true, true, true, true, false, true, false, false, false, false, false, false, false, false, false, false] rfl rfl (by kernel_rfl) (fun _ _ _ h => h) (Or.inl ⟨by rfl, ?_⟩) ?_ ?_
  rotate_left
  · intro w'
    go_simp
    with_reducible rfl
  rotate_left
  · simp only [Act.put, List.setIfInBounds_toArray, List.set_cons_zero, List.set_cons_succ, i64_w, i32_w]
    rfl
  refine pure_ (i := 16) (N := some 23) (v := ?_) (a' := ?_) #[true, true, true, true, true, true, true, true, true, true, true, true, false, true, false, false, true, false, false, false, false, false, false, false] rfl rfl (by kernel_rfl) (fun _ _ _ h => h) (Or.inl ⟨by rfl, ?_⟩) ?_ ?_
  rotate_left
  · intro w'
    go_simp
    with_reducible rfl
  rotate_left
  · simp only [Act.put, List.setIfInBounds_toArray, List.set_cons_zero, List.set_cons_succ, i64_w, i32_w]
    rfl
  refine take_ (i := 12) (N := some 19) (v := ?_) (a' := ?_) #[true, true, true, true, true, true, true, true, true, true, true, true, true, true, false, false, true, false, false, false, false, false, false, false] rfl rfl (by kernel_rfl) (fun _ _ _ h => h) (Or.inl ⟨by rfl, ?_⟩) hHeld ?_ ?_
  rotate_left
  · rintro w' ⟨s0, s1, s2, s3, s4, s5, s6, s7, s8, s9, s10, s11, s12, s13⟩
    go_simp
    with_reducible rfl
  rotate_left
  · simp only [Act.put, List.setIfInBounds_toArray, List.set_cons_zero, List.set_cons_succ, i64_w, i32_w]
    rfl
  refine take_ (i := 15) (N := some 22) (v := ?_) (a' := ?_) #[true, true, true, true, true, true, true, true, true, true, true, true, true, true, false, true, true, false, false, false, false, false, false, false] rfl rfl (by kernel_rfl) (fun _ _ _ h => h) (Or.inl ⟨by rfl, ?_⟩) hHeld ?_ ?_
  rotate_left
  · rintro w' ⟨s0, s1, s2, s3, s4, s5, s6, s7, s8, s9, s10, s11, s12, s13⟩
    go_simp
    with_reducible rfl
  rotate_left
  · simp only [Act.put, List.setIfInBounds_toArray, List.set_cons_zero, List.set_cons_succ, i64_w, i32_w]
    rfl
  refine one_ (i := 14) (N := some 21) #[true, true, true, true, true, true, true, true, true, true, true, true, true, true, true, true, true, false, false, false, false, false, false, false] rfl rfl (by kernel_rfl) (by decide) (fun K hK => ?_)
  refine goes_ Try.func22 (by kernel_rfl) rfl _ (by rfl) rfl rfl (by simp only [List.map_toArray, List.map_cons, List.map_nil]; rfl) ?_
  refine (ahead_calls pl x y vx vy hd he en am co wt sp sc nm t ht _).mono ?_
  rintro e w8 ⟨p4, q4, hp4, hq4, rfl, hb4⟩
  refine ⟨_, rfl, ?_⟩
  have Xg2 := blk_below Xg2 hb4
  have hB := below_step hB hb4
  refine hK.out _ _ ⟨pw_cell_below hb4 (hHeld.1), pw_cell_below hb4 (hHeld.2.1), pw_cell_below hb4 (hHeld.2.2.1), pw_cell_below hb4 (hHeld.2.2.2.1), pw_cell_below hb4 (hHeld.2.2.2.2.1), pw_cell_below hb4 (hHeld.2.2.2.2.2.1), pw_cell_below hb4 (hHeld.2.2.2.2.2.2.1), pw_cell_below hb4 (hHeld.2.2.2.2.2.2.2.1), pw_cell_below hb4 (hHeld.2.2.2.2.2.2.2.2.1), pw_cell_below hb4 (hHeld.2.2.2.2.2.2.2.2.2.1), pw_cell_below hb4 (hHeld.2.2.2.2.2.2.2.2.2.2.1), pw_cell_below hb4 (hHeld.2.2.2.2.2.2.2.2.2.2.2.1), pw_cell_below hb4 (hHeld.2.2.2.2.2.2.2.2.2.2.2.2.1), pw_cell_below hb4 (hHeld.2.2.2.2.2.2.2.2.2.2.2.2.2)⟩ (fun hHeld => ?_)
  clear hK K
  refine norm_ (a' := ?_) ?_ ?_
  rotate_left
  · show Act.put _ (some 21) _ = _
    simp only [Act.put, List.setIfInBounds_toArray, List.set_cons_zero, List.set_cons_succ, i64_w, i32_w]
    rfl
  refine one_ (i := 17) (N := some 24) #[true, true, true, true, true, true, true, true, true, true, true, true, true, true, true, true, true, true, false, false, false, false, false, false] rfl rfl (by kernel_rfl) (by decide) (fun K hK => ?_)
  refine goes_ Try.func23 (by kernel_rfl) rfl _ (by rfl) rfl rfl (by simp only [List.map_toArray, List.map_cons, List.map_nil]; rfl) ?_
  refine (refahead_calls pl x y vx vy hd he en am co wt sp sc nm t hd0 hd1 _).mono ?_
  rintro e w8 ⟨p5, q5, r5, hp5, hq5, hr5, rfl, hb5⟩
  refine ⟨_, rfl, ?_⟩
  have Xg2 := blk_below Xg2 hb5
  have hB := below_step hB hb5
  refine hK.out _ _ ⟨pw_cell_below hb5 (hHeld.1), pw_cell_below hb5 (hHeld.2.1), pw_cell_below hb5 (hHeld.2.2.1), pw_cell_below hb5 (hHeld.2.2.2.1), pw_cell_below hb5 (hHeld.2.2.2.2.1), pw_cell_below hb5 (hHeld.2.2.2.2.2.1), pw_cell_below hb5 (hHeld.2.2.2.2.2.2.1), pw_cell_below hb5 (hHeld.2.2.2.2.2.2.2.1), pw_cell_below hb5 (hHeld.2.2.2.2.2.2.2.2.1), pw_cell_below hb5 (hHeld.2.2.2.2.2.2.2.2.2.1), pw_cell_below hb5 (hHeld.2.2.2.2.2.2.2.2.2.2.1), pw_cell_below hb5 (hHeld.2.2.2.2.2.2.2.2.2.2.2.1), pw_cell_below hb5 (hHeld.2.2.2.2.2.2.2.2.2.2.2.2.1), pw_cell_below hb5 (hHeld.2.2.2.2.2.2.2.2.2.2.2.2.2)⟩ (fun hHeld => ?_)
  clear hK K
  refine norm_ (a' := ?_) ?_ ?_
  rotate_left
  · show Act.put _ (some 24) _ = _
    simp only [Act.put, List.setIfInBounds_toArray, List.set_cons_zero, List.set_cons_succ, i64_w, i32_w]
    rfl
  refine one_ (i := 18) (N := some 25) #[true, true, true, true, true, true, true, true, true, true, true, true, true, true, true, true, true, true, true, false, false, false, false, false] rfl rfl (by kernel_rfl) (by decide) (fun K hK => ?_)
  refine goes_ Try.func11 (by kernel_rfl) rfl _ (by rfl) rfl rfl (by simp only [List.map_toArray, List.map_cons, List.map_nil]; rfl) ?_
  refine (one_calls p4 q4 _ p5 q5 r5 (hp4.trans hp5.symm) (hq4.trans hq5.symm) hr5.symm _).mono ?_
  rintro e w8 ⟨rfl, hb6⟩
  refine ⟨_, rfl, ?_⟩
  have Xg2 := blk_below Xg2 hb6
  have hB := below_step hB hb6
  refine hK.out _ _ ⟨pw_cell_below hb6 (hHeld.1), pw_cell_below hb6 (hHeld.2.1), pw_cell_below hb6 (hHeld.2.2.1), pw_cell_below hb6 (hHeld.2.2.2.1), pw_cell_below hb6 (hHeld.2.2.2.2.1), pw_cell_below hb6 (hHeld.2.2.2.2.2.1), pw_cell_below hb6 (hHeld.2.2.2.2.2.2.1), pw_cell_below hb6 (hHeld.2.2.2.2.2.2.2.1), pw_cell_below hb6 (hHeld.2.2.2.2.2.2.2.2.1), pw_cell_below hb6 (hHeld.2.2.2.2.2.2.2.2.2.1), pw_cell_below hb6 (hHeld.2.2.2.2.2.2.2.2.2.2.1), pw_cell_below hb6 (hHeld.2.2.2.2.2.2.2.2.2.2.2.1), pw_cell_below hb6 (hHeld.2.2.2.2.2.2.2.2.2.2.2.2.1), pw_cell_below hb6 (hHeld.2.2.2.2.2.2.2.2.2.2.2.2.2)⟩ (fun hHeld => ?_)
  clear hK K
  refine norm_ (a' := ?_) ?_ ?_
  rotate_left
  · show Act.put _ (some 25) _ = _
    simp only [Act.put, List.setIfInBounds_toArray, List.set_cons_zero, List.set_cons_succ, i64_w, i32_w]
    rfl
  refine pure_ (i := 19) (N := some 26) (v := ?_) (a' := ?_) #[true, true, true, true, true, true, true, true, true, true, true, true, true, true, true, true, true, true, true, true, false, false, false, false] rfl rfl (by kernel_rfl) (fun _ _ _ h => h) (Or.inl ⟨by rfl, ?_⟩) ?_ ?_
  rotate_left
  · intro w'
    go_simp
    with_reducible rfl
  rotate_left
  · simp only [Act.put, List.setIfInBounds_toArray, List.set_cons_zero, List.set_cons_succ, i64_w, i32_w]
    rfl
  refine pure_ (i := 20) (N := some 27) (v := ?_) (a' := ?_) #[true, true, true, true, true, true, true, true, true, true, true, true, true, true, true, true, true, true, true, true, true, false, false, false] rfl rfl (by kernel_rfl) (fun _ _ _ h => h) (Or.inl ⟨by rfl, ?_⟩) ?_ ?_
  rotate_left
  · intro w'
    go_simp
    with_reducible rfl
  rotate_left
  · simp only [Act.put, List.setIfInBounds_toArray, List.set_cons_zero, List.set_cons_succ, i64_w, i32_w]
    rfl
  refine one_ (i := 21) (N := some 28) #[true, true, true, true, true, true, true, true, true, true, true, true, true, true, true, true, true, true, true, true, true, true, false, false] rfl rfl (by kernel_rfl) (by decide) (fun K hK => ?_)
  refine goes_ Try.func10 (by kernel_rfl) rfl _ (by rfl) rfl rfl (by simp only [List.map_toArray, List.map_cons, List.map_nil]; rfl) ?_
  refine (alive_calls _).mono ?_
  rintro e w8 ⟨rfl, hb7⟩
  refine ⟨_, rfl, ?_⟩
  have Xg2 := blk_below Xg2 hb7
  have hB := below_step hB hb7
  refine hK.out _ _ ⟨pw_cell_below hb7 (hHeld.1), pw_cell_below hb7 (hHeld.2.1), pw_cell_below hb7 (hHeld.2.2.1), pw_cell_below hb7 (hHeld.2.2.2.1), pw_cell_below hb7 (hHeld.2.2.2.2.1), pw_cell_below hb7 (hHeld.2.2.2.2.2.1), pw_cell_below hb7 (hHeld.2.2.2.2.2.2.1), pw_cell_below hb7 (hHeld.2.2.2.2.2.2.2.1), pw_cell_below hb7 (hHeld.2.2.2.2.2.2.2.2.1), pw_cell_below hb7 (hHeld.2.2.2.2.2.2.2.2.2.1), pw_cell_below hb7 (hHeld.2.2.2.2.2.2.2.2.2.2.1), pw_cell_below hb7 (hHeld.2.2.2.2.2.2.2.2.2.2.2.1), pw_cell_below hb7 (hHeld.2.2.2.2.2.2.2.2.2.2.2.2.1), pw_cell_below hb7 (hHeld.2.2.2.2.2.2.2.2.2.2.2.2.2)⟩ (fun hHeld => ?_)
  clear hK K
  refine norm_ (a' := ?_) ?_ ?_
  rotate_left
  · show Act.put _ (some 28) _ = _
    simp only [Act.put, List.setIfInBounds_toArray, List.set_cons_zero, List.set_cons_succ, i64_w, i32_w]
    rfl
  refine pure_ (i := 22) (N := some 29) (v := ?_) (a' := ?_) #[true, true, true, true, true, true, true, true, true, true, true, true, true, true, true, true, true, true, true, true, true, true, true, false] rfl rfl (by kernel_rfl) (fun _ _ _ h => h) (Or.inl ⟨by rfl, ?_⟩) ?_ ?_
  rotate_left
  · intro w'
    go_simp
    with_reducible rfl
  rotate_left
  · simp only [Act.put, List.setIfInBounds_toArray, List.set_cons_zero, List.set_cons_succ, i64_w, i32_w]
    rfl
  refine pure_ (i := 23) (N := some 4) (v := ?_) (a' := ?_) #[true, true, true, true, true, true, true, true, true, true, true, true, true, true, true, true, true, true, true, true, true, true, true, true] rfl rfl (by kernel_rfl) (fun _ _ _ h => h) (Or.inl ⟨by rfl, ?_⟩) ?_ ?_
  rotate_left
  · intro w'
    go_simp
    with_reducible rfl
  rotate_left
  · simp only [Act.put, List.setIfInBounds_toArray, List.set_cons_zero, List.set_cons_succ, i64_w, i32_w]
    rfl
  refine done_ (by kernel_rfl) ?_

  go_wp2
  go_ret
  exact ⟨rfl, hB⟩
end Go.Proofs.Ytjffkidfoapbjaa.Fl
