/- Proved: the walks of package smooth's Mix and of the document's: what they give, one NaN as good as another. -/
import Derived.Test.YtjffkidfoapbjaaFl
import Derived.Laws.Rows
namespace Go.Proofs.Ytjffkidfoapbjaa.Fl
open Go.RowKit Go.Proofs.YtjffkidfoapbjaaW.PrintWords Go.Proofs.YtjffkidfoapbjaaW.PrintLast Go.Proofs.YtjffkidfoapbjaaW.PrintMore
set_option linter.unusedVariables false
set_option linter.unusedSimpArgs false
attribute [local go_sem] run_store_float

def share (a b t : Nat) : Nat := fop .add a (fop .mul (fop .sub b a) t)
set_option maxHeartbeats 2000000 in
set_option maxRecDepth 100000 in
theorem share_calls (a b t : Nat) (w : World) : Calls Try.prog 29 #[.float .f32 a, .float .f32 b, .float .f32 t] w fun e w' => ∃ r, Fe r (share a b t) ∧ e = .returned (.float .f32 r) ∧ Drawn0 w w' := by
  go_enter Try.func29, Try.ntmps29
  go_wp2_with (first
      | ((try (refine gate_guard (by rfl) ?_; dsimp only)); refine wpList_fl _ rfl _ _ _ _ _ rfl (by decide) _ _ _ _ rfl rfl (by first | assumption | exact Fe.refl _) (by first | assumption | exact Fe.refl _) ?_; intro z nd hz)
      | ((try (refine gate_guard (by rfl) ?_; dsimp only)); refine wpList_flc _ rfl _ _ _ _ _ rfl (by decide) _ _ _ _ rfl rfl (by first | assumption | exact Fe.refl _) (by first | assumption | exact Fe.refl _) ?_))
  go_ret
  exact ⟨_, by assumption, rfl, ⟨⟨_, rfl⟩⟩⟩

/-- The way that is gone: the shorter one. -/
def turned (d : Nat) : Nat := if fcmp .gtr d 1127481344 = true then fop .sub d 1135869952 else if fcmp .lss d 3274964992 = true then fop .add d 1135869952 else d
/-- An angle brought back. -/
def under (w : Nat) : Nat := if fcmp .geq w 1135869952 = true then fop .sub w 1135869952 else w
def over (w : Nat) : Nat := if fcmp .lss w 0 = true then (if fcmp .geq (fop .add w 1135869952) 1135869952 = true then 0 else fop .add w 1135869952) else w
def angle (a b t : Nat) : Nat := over (under (fop .add a (fop .mul (turned (fop .sub b a)) t)))
set_option maxHeartbeats 2000000 in
set_option maxRecDepth 100000 in
theorem angle_calls (a b t : Nat) (w : World) : Calls Try.prog 30 #[.float .f32 a, .float .f32 b, .float .f32 t] w fun e w' => ∃ r, Fe r (angle a b t) ∧ e = .returned (.float .f32 r) ∧ Drawn0 w w' := by
  go_enter Try.func30, Try.ntmps30
  go_wp2_with (first
      | ((try (refine gate_guard (by rfl) ?_; dsimp only)); refine wpList_fl _ rfl _ _ _ _ _ rfl (by decide) _ _ _ _ rfl rfl (by first | assumption | exact Fe.refl _) (by first | assumption | exact Fe.refl _) ?_; intro z nd hz)
      | ((try (refine gate_guard (by rfl) ?_; dsimp only)); refine wpList_flc _ rfl _ _ _ _ _ rfl (by decide) _ _ _ _ rfl rfl (by first | assumption | exact Fe.refl _) (by first | assumption | exact Fe.refl _) ?_))
  all_goals
    go_ret
    refine ⟨_, ?_, rfl, ⟨⟨_, rfl⟩⟩⟩
    simp only [angle, turned, under, over, *, Bool.false_eq_true, if_true, if_false] <;> first | assumption | exact Fe.refl _

/-- A coordinate between two; an angle between two. -/
def mixS (a b t : Nat) : Nat := if fcmp .gtr t 0 = true then (if fcmp .geq t 1065353216 = true then b else share a b t) else a
def mixA (a b t : Nat) : Nat := if fcmp .gtr t 0 = true then (if fcmp .geq t 1065353216 = true then b else angle a b t) else a

set_option maxHeartbeats 4000000 in
set_option maxRecDepth 100000 in
theorem mix_calls (ax ay aa bx by_ ba t : Nat) (w : World) : Calls Try.prog 12 #[.agg #[.float .f32 ax, .float .f32 ay, .float .f32 aa], .agg #[.float .f32 bx, .float .f32 by_, .float .f32 ba], .float .f32 t] w fun e w' => ∃ x y z, Fe x (mixS ax bx t) ∧ Fe y (mixS ay by_ t) ∧ Fe z (mixA aa ba t) ∧ e = .returned (.agg #[.float .f32 x, .float .f32 y, .float .f32 z]) ∧ Below w.heap.size w w' := by
  have hu24 := Try.underlying24
  go_enter Try.func12, Try.ntmps12
  go_wp2_with (first
      | ((try (refine gate_guard (by rfl) ?_; dsimp only)); refine wpList_fl _ rfl _ _ _ _ _ rfl (by decide) _ _ _ _ rfl rfl (by first | assumption | exact Fe.refl _) (by first | assumption | exact Fe.refl _) ?_; intro z nd hz)
      | ((try (refine gate_guard (by rfl) ?_; dsimp only)); refine wpList_flc _ rfl _ _ _ _ _ rfl (by decide) _ _ _ _ rfl rfl (by first | assumption | exact Fe.refl _) (by first | assumption | exact Fe.refl _) ?_)
      | ((with_reducible refine gate_dst (N := 3) rfl ?_); refine box_event ?hg (N := 3) ?hd (cs := #[.float .f32 ax, .float .f32 ay, .float .f32 aa]) (t := 24) ?hr ?_; (case hd => rfl); (case hg => rfl); (case hr => first | (go_simp; done) | (go_simp; rfl)); intro g3 eg3 w3 Xg3 Bg3; clear eg3)
      | ((with_reducible refine gate_dst (N := 4) rfl ?_); refine box_event ?hg (N := 4) ?hd (cs := #[.float .f32 bx, .float .f32 by_, .float .f32 ba]) (t := 24) ?hr ?_; (case hd => rfl); (case hg => rfl); (case hr => first | (go_simp; done) | (go_simp; rfl)); intro g4 eg4 w4 Xg4 Bg4; have Xg3 := blk_below Xg3 Bg4; have hB4 := below_step Bg3 Bg4; clear eg4)
      | ((with_reducible refine gate_dst (N := 6) rfl ?_); refine box_event ?hg (N := 6) ?hd (cs := #[.float .f32 0, .float .f32 0, .float .f32 0]) (t := 24) ?hr ?_; (case hd => rfl); (case hg => rfl); (case hr => first | (go_simp; done) | (go_simp; rfl)); intro g6 eg6 w6 Xg6 Bg6; have Xg3 := blk_below Xg3 Bg6; have Xg4 := blk_below Xg4 Bg6; have hB := below_step hB4 Bg6; have hg6 : w.heap.size ≤ g6 := (by rw [eg6]; exact hB4.size); have cg3_0 : w6.cell? ⟨g3, 0, none⟩ = some (.float .f32 ax) := (blk_cell Xg3 0).trans rfl; have cg3_1 : w6.cell? ⟨g3, 1, none⟩ = some (.float .f32 ay) := (blk_cell Xg3 1).trans rfl; have cg3_2 : w6.cell? ⟨g3, 2, none⟩ = some (.float .f32 aa) := (blk_cell Xg3 2).trans rfl; have fg3_0 := blk_frozen Xg3 0; have fg3_1 := blk_frozen Xg3 1; have fg3_2 := blk_frozen Xg3 2; have cg4_0 : w6.cell? ⟨g4, 0, none⟩ = some (.float .f32 bx) := (blk_cell Xg4 0).trans rfl; have cg4_1 : w6.cell? ⟨g4, 1, none⟩ = some (.float .f32 by_) := (blk_cell Xg4 1).trans rfl; have cg4_2 : w6.cell? ⟨g4, 2, none⟩ = some (.float .f32 ba) := (blk_cell Xg4 2).trans rfl; have fg4_0 := blk_frozen Xg4 0; have fg4_1 := blk_frozen Xg4 1; have fg4_2 := blk_frozen Xg4 2; have cg6_0 : w6.cell? ⟨g6, 0, none⟩ = some (.float .f32 0) := (blk_cell Xg6 0).trans rfl; have cg6_1 : w6.cell? ⟨g6, 1, none⟩ = some (.float .f32 0) := (blk_cell Xg6 1).trans rfl; have cg6_2 : w6.cell? ⟨g6, 2, none⟩ = some (.float .f32 0) := (blk_cell Xg6 2).trans rfl; have fg6_0 := blk_frozen Xg6 0; have fg6_1 := blk_frozen Xg6 1; have fg6_2 := blk_frozen Xg6 2; clear Bg3 Bg4 Bg6 eg6))
  · (try simp only [Exit.inBlock, Exit.then]); refine bodyPost_ret (results_cell_row rfl _ _ g6 24 #[.float .f32 ax, .float .f32 ay, .float .f32 aa] (0, 0) _ rfl (blk_put (blk_put (blk_put Xg6 0 _ rfl) 1 _ rfl) 2 _ rfl) Try.underlying24 rfl (by kernel_rfl)) rfl ?_
    exact ⟨ax, ay, aa, by simp_all [mixS, Fe.refl], by simp_all [mixS, Fe.refl], by simp_all [mixA, Fe.refl], rfl, below_set (below_set (below_set hB hg6) hg6) hg6⟩
  · (try simp only [Exit.inBlock, Exit.then]); refine bodyPost_ret (results_cell_row rfl _ _ g6 24 #[.float .f32 bx, .float .f32 by_, .float .f32 ba] (0, 0) _ rfl (blk_put (blk_put (blk_put Xg6 0 _ rfl) 1 _ rfl) 2 _ rfl) Try.underlying24 rfl (by kernel_rfl)) rfl ?_
    exact ⟨bx, by_, ba, by simp_all [mixS, Fe.refl], by simp_all [mixS, Fe.refl], by simp_all [mixA, Fe.refl], rfl, below_set (below_set (below_set hB hg6) hg6) hg6⟩
  · skip
    refine start_ (n := 20) (S := fun w' => w'.cell? ⟨g3, 0, none⟩ = some (.float .f32 ax) ∧ w'.cell? ⟨g3, 1, none⟩ = some (.float .f32 ay) ∧ w'.cell? ⟨g3, 2, none⟩ = some (.float .f32 aa) ∧ w'.cell? ⟨g4, 0, none⟩ = some (.float .f32 bx) ∧ w'.cell? ⟨g4, 1, none⟩ = some (.float .f32 by_) ∧ w'.cell? ⟨g4, 2, none⟩ = some (.float .f32 ba)) (ds := [19]) #[false, false, false, false, false, false, false, false, false, false, false, false, false, false, false, false, false, false, false, false] (by kernel_rfl) rfl rfl ⟨cg3_0, cg3_1, cg3_2, cg4_0, cg4_1, cg4_2⟩ (fun hHeld => ?_)
    refine pure_ (i := 0) (N := some 16) (v := ?_) (a' := ?_) #[true, false, false, false, false, false, false, false, false, false, false, false, false, false, false, false, false, false, false, false] rfl rfl (by kernel_rfl) (fun _ _ _ h => h) (Or.inl ⟨by rfl, ?_⟩) ?_ ?_
    rotate_left
    · intro w'
      go_simp
      with_reducible rfl
    rotate_left
    · simp only [Act.put, List.setIfInBounds_toArray, List.set_cons_zero, List.set_cons_succ, i64_w, i32_w]
      rfl
    refine pure_ (i := 2) (N := some 18) (v := ?_) (a' := ?_) #[true, false, true, false, false, false, false, false, false, false, false, false, false, false, false, false, false, false, false, false] rfl rfl (by kernel_rfl) (fun _ _ _ h => h) (Or.inl ⟨by rfl, ?_⟩) ?_ ?_
    rotate_left
    · intro w'
      go_simp
      with_reducible rfl
    rotate_left
    · simp only [Act.put, List.setIfInBounds_toArray, List.set_cons_zero, List.set_cons_succ, i64_w, i32_w]
      rfl
    refine pure_ (i := 4) (N := some 20) (v := ?_) (a' := ?_) #[true, false, true, false, true, false, false, false, false, false, false, false, false, false, false, false, false, false, false, false] rfl rfl (by kernel_rfl) (fun _ _ _ h => h) (Or.inl ⟨by rfl, ?_⟩) ?_ ?_
    rotate_left
    · intro w'
      go_simp
      with_reducible rfl
    rotate_left
    · simp only [Act.put, List.setIfInBounds_toArray, List.set_cons_zero, List.set_cons_succ, i64_w, i32_w]
      rfl
    refine pure_ (i := 6) (N := some 22) (v := ?_) (a' := ?_) #[true, false, true, false, true, false, true, false, false, false, false, false, false, false, false, false, false, false, false, false] rfl rfl (by kernel_rfl) (fun _ _ _ h => h) (Or.inl ⟨by rfl, ?_⟩) ?_ ?_
    rotate_left
    · intro w'
      go_simp
      with_reducible rfl
    rotate_left
    · simp only [Act.put, List.setIfInBounds_toArray, List.set_cons_zero, List.set_cons_succ, i64_w, i32_w]
      rfl
    refine pure_ (i := 8) (N := some 24) (v := ?_) (a' := ?_) #[true, false, true, false, true, false, true, false, true, false, false, false, false, false, false, false, false, false, false, false] rfl rfl (by kernel_rfl) (fun _ _ _ h => h) (Or.inl ⟨by rfl, ?_⟩) ?_ ?_
    rotate_left
    · intro w'
      go_simp
      with_reducible rfl
    rotate_left
    · simp only [Act.put, List.setIfInBounds_toArray, List.set_cons_zero, List.set_cons_succ, i64_w, i32_w]
      rfl
    refine pure_ (i := 10) (N := some 26) (v := ?_) (a' := ?_) #[true, false, true, false, true, false, true, false, true, false, true, false, false, false, false, false, false, false, false, false] rfl rfl (by kernel_rfl) (fun _ _ _ h => h) (Or.inl ⟨by rfl, ?_⟩) ?_ ?_
    rotate_left
    · intro w'
      go_simp
      with_reducible rfl
    rotate_left
    · simp only [Act.put, List.setIfInBounds_toArray, List.set_cons_zero, List.set_cons_succ, i64_w, i32_w]
      rfl
    refine pure_ (i := 12) (N := some 28) (v := ?_) (a' := ?_) #[true, false, true, false, true, false, true, false, true, false, true, false, true, false, false, false, false, false, false, false] rfl rfl (by kernel_rfl) (fun _ _ _ h => h) (Or.inl ⟨by rfl, ?_⟩) ?_ ?_
    rotate_left
    · intro w'
      go_simp
      with_reducible rfl
    rotate_left
    · simp only [Act.put, List.setIfInBounds_toArray, List.set_cons_zero, List.set_cons_succ, i64_w, i32_w]
      rfl
    refine pure_ (i := 14) (N := some 30) (v := ?_) (a' := ?_) #[true, false, true, false, true, false, true, false, true, false, true, false, true, false, true, false, false, false, false, false] rfl rfl (by kernel_rfl) (fun _ _ _ h => h) (Or.inl ⟨by rfl, ?_⟩) ?_ ?_
    rotate_left
    · intro w'
      go_simp
      with_reducible rfl
    rotate_left
    · simp only [Act.put, List.setIfInBounds_toArray, List.set_cons_zero, List.set_cons_succ, i64_w, i32_w]
      rfl
    refine pure_ (i := 16) (N := some 32) (v := ?_) (a' := ?_) #[true, false, true, false, true, false, true, false, true, false, true, false, true, false, true, false, true, false, false, false] rfl rfl (by kernel_rfl) (fun _ _ _ h => h) (Or.inl ⟨by rfl, ?_⟩) ?_ ?_
    rotate_left
    · intro w'
      go_simp
      with_reducible rfl
    rotate_left
    · simp only [Act.put, List.setIfInBounds_toArray, List.set_cons_zero, List.set_cons_succ, i64_w, i32_w]
      rfl
    refine take_ (i := 1) (N := some 17) (v := ?_) (a' := ?_) #[true, true, true, false, true, false, true, false, true, false, true, false, true, false, true, false, true, false, false, false] rfl rfl (by kernel_rfl) (fun _ _ _ h => h) (Or.inl ⟨by rfl, ?_⟩) hHeld ?_ ?_
    rotate_left
    · rintro w' ⟨s0, s1, s2, s3, s4, s5⟩
      go_simp
      with_reducible rfl
    rotate_left
    · simp only [Act.put, List.setIfInBounds_toArray, List.set_cons_zero, List.set_cons_succ, i64_w, i32_w]
      rfl
    refine take_ (i := 3) (N := some 19) (v := ?_) (a' := ?_) #[true, true, true, true, true, false, true, false, true, false, true, false, true, false, true, false, true, false, false, false] rfl rfl (by kernel_rfl) (fun _ _ _ h => h) (Or.inl ⟨by rfl, ?_⟩) hHeld ?_ ?_
    rotate_left
    · rintro w' ⟨s0, s1, s2, s3, s4, s5⟩
      go_simp
      with_reducible rfl
    rotate_left
    · simp only [Act.put, List.setIfInBounds_toArray, List.set_cons_zero, List.set_cons_succ, i64_w, i32_w]
      rfl
    refine take_ (i := 7) (N := some 23) (v := ?_) (a' := ?_) #[true, true, true, true, true, false, true, true, true, false, true, false, true, false, true, false, true, false, false, false] rfl rfl (by kernel_rfl) (fun _ _ _ h => h) (Or.inl ⟨by rfl, ?_⟩) hHeld ?_ ?_
    rotate_left
    · rintro w' ⟨s0, s1, s2, s3, s4, s5⟩
      go_simp
      with_reducible rfl
    rotate_left
    · simp only [Act.put, List.setIfInBounds_toArray, List.set_cons_zero, List.set_cons_succ, i64_w, i32_w]
      rfl
    refine take_ (i := 9) (N := some 25) (v := ?_) (a' := ?_) #[true, true, true, true, true, false, true, true, true, true, true, false, true, false, true, false, true, false, false, false] rfl rfl (by kernel_rfl) (fun _ _ _ h => h) (Or.inl ⟨by rfl, ?_⟩) hHeld ?_ ?_
    rotate_left
    · rintro w' ⟨s0, s1, s2, s3, s4, s5⟩
      go_simp
      with_reducible rfl
    rotate_left
    · simp only [Act.put, List.setIfInBounds_toArray, List.set_cons_zero, List.set_cons_succ, i64_w, i32_w]
      rfl
    refine take_ (i := 13) (N := some 29) (v := ?_) (a' := ?_) #[true, true, true, true, true, false, true, true, true, true, true, false, true, true, true, false, true, false, false, false] rfl rfl (by kernel_rfl) (fun _ _ _ h => h) (Or.inl ⟨by rfl, ?_⟩) hHeld ?_ ?_
    rotate_left
    · rintro w' ⟨s0, s1, s2, s3, s4, s5⟩
      go_simp
      with_reducible rfl
    rotate_left
    · simp only [Act.put, List.setIfInBounds_toArray, List.set_cons_zero, List.set_cons_succ, i64_w, i32_w]
      rfl
    refine take_ (i := 15) (N := some 31) (v := ?_) (a' := ?_) #[true, true, true, true, true, false, true, true, true, true, true, false, true, true, true, true, true, false, false, false] rfl rfl (by kernel_rfl) (fun _ _ _ h => h) (Or.inl ⟨by rfl, ?_⟩) hHeld ?_ ?_
    rotate_left
    · rintro w' ⟨s0, s1, s2, s3, s4, s5⟩
      go_simp
      with_reducible rfl
    rotate_left
    · simp only [Act.put, List.setIfInBounds_toArray, List.set_cons_zero, List.set_cons_succ, i64_w, i32_w]
      rfl
    refine one_ (i := 5) (N := some 21) #[true, true, true, true, true, true, true, true, true, true, true, false, true, true, true, true, true, false, false, false] rfl rfl (by kernel_rfl) (by decide) (fun K hK => ?_)
    refine goes_ Try.func29 (by kernel_rfl) rfl #[.float .f32 ax, .float .f32 bx, .float .f32 t] (by rfl) rfl rfl (by simp only [List.map_toArray, List.map_cons, List.map_nil]; rfl) ?_
    with_reducible refine (share_calls ax bx t _).mono ?_
    rintro e w7 ⟨z1, hz1, rfl, hd1⟩
    refine ⟨_, rfl, ?_⟩
    have Xg6 := dblk hd1 Xg6
    have hB := dbelow hd1 (below_drew1 hB)
    refine hK.out _ _ ⟨dcell hd1 (hHeld.1), dcell hd1 (hHeld.2.1), dcell hd1 (hHeld.2.2.1), dcell hd1 (hHeld.2.2.2.1), dcell hd1 (hHeld.2.2.2.2.1), dcell hd1 (hHeld.2.2.2.2.2)⟩ (fun hHeld => ?_)
    clear hK K
    refine norm_ (a' := ?_) ?_ ?_
    rotate_left
    · show Act.put _ (some 21) _ = _
      simp only [Act.put, List.setIfInBounds_toArray, List.set_cons_zero, List.set_cons_succ, i64_w, i32_w]
      rfl
    refine one_ (i := 11) (N := some 27) #[true, true, true, true, true, true, true, true, true, true, true, true, true, true, true, true, true, false, false, false] rfl rfl (by kernel_rfl) (by decide) (fun K hK => ?_)
    refine goes_ Try.func29 (by kernel_rfl) rfl #[.float .f32 ay, .float .f32 by_, .float .f32 t] (by rfl) rfl rfl (by simp only [List.map_toArray, List.map_cons, List.map_nil]; rfl) ?_
    with_reducible refine (share_calls ay by_ t _).mono ?_
    rintro e w8 ⟨z2, hz2, rfl, hd2⟩
    refine ⟨_, rfl, ?_⟩
    have Xg6 := dblk hd2 Xg6
    have hB := dbelow hd2 hB
    refine hK.out _ _ ⟨dcell hd2 (hHeld.1), dcell hd2 (hHeld.2.1), dcell hd2 (hHeld.2.2.1), dcell hd2 (hHeld.2.2.2.1), dcell hd2 (hHeld.2.2.2.2.1), dcell hd2 (hHeld.2.2.2.2.2)⟩ (fun hHeld => ?_)
    clear hK K
    refine norm_ (a' := ?_) ?_ ?_
    rotate_left
    · show Act.put _ (some 27) _ = _
      simp only [Act.put, List.setIfInBounds_toArray, List.set_cons_zero, List.set_cons_succ, i64_w, i32_w]
      rfl
    refine one_ (i := 17) (N := some 33) #[true, true, true, true, true, true, true, true, true, true, true, true, true, true, true, true, true, true, false, false] rfl rfl (by kernel_rfl) (by decide) (fun K hK => ?_)
    refine goes_ Try.func30 (by kernel_rfl) rfl #[.float .f32 aa, .float .f32 ba, .float .f32 t] (by rfl) rfl rfl (by simp only [List.map_toArray, List.map_cons, List.map_nil]; rfl) ?_
    with_reducible refine (angle_calls aa ba t _).mono ?_
    rintro e w9 ⟨z3, hz3, rfl, hd3⟩
    refine ⟨_, rfl, ?_⟩
    have Xg6 := dblk hd3 Xg6
    have hB := dbelow hd3 hB
    refine hK.out _ _ ⟨dcell hd3 (hHeld.1), dcell hd3 (hHeld.2.1), dcell hd3 (hHeld.2.2.1), dcell hd3 (hHeld.2.2.2.1), dcell hd3 (hHeld.2.2.2.2.1), dcell hd3 (hHeld.2.2.2.2.2)⟩ (fun hHeld => ?_)
    clear hK K
    refine norm_ (a' := ?_) ?_ ?_
    rotate_left
    · show Act.put _ (some 33) _ = _
      simp only [Act.put, List.setIfInBounds_toArray, List.set_cons_zero, List.set_cons_succ, i64_w, i32_w]
      rfl
    refine pure_ (i := 18) (N := some 34) (v := ?_) (a' := ?_) #[true, true, true, true, true, true, true, true, true, true, true, true, true, true, true, true, true, true, true, false] rfl rfl (by kernel_rfl) (fun _ _ _ h => h) (Or.inl ⟨by rfl, ?_⟩) ?_ ?_
    rotate_left
    · intro w'
      go_simp
      with_reducible rfl
    rotate_left
    · simp only [Act.put, List.setIfInBounds_toArray, List.set_cons_zero, List.set_cons_succ, i64_w, i32_w]
      rfl
    refine last_ (i := 19) (N := none) #[true, true, true, true, true, true, true, true, true, true, true, true, true, true, true, true, true, true, true, true] rfl rfl (by kernel_rfl) (by decide) (fun K hK => ?_)
    have cg6_0 : w9.cell? ⟨g6, 0, none⟩ = some (.float .f32 0) := (blk_cell Xg6 0).trans rfl
    have cg6_1 : w9.cell? ⟨g6, 1, none⟩ = some (.float .f32 0) := (blk_cell Xg6 1).trans rfl
    have cg6_2 : w9.cell? ⟨g6, 2, none⟩ = some (.float .f32 0) := (blk_cell Xg6 2).trans rfl
    have fg6_0 := blk_frozen Xg6 0
    have fg6_1 := blk_frozen Xg6 1
    have fg6_2 := blk_frozen Xg6 2
    refine skip_ (w1 := ?_) (by rfl) rfl ?_ ?_
    rotate_left
    · go_simp
      rfl
    refine hK.out _ _ ?_
    clear hK K
    refine done_ (by kernel_rfl) ?_

    go_wp2
    (try simp only [Exit.inBlock, Exit.then]); refine bodyPost_ret (results_cell_row rfl _ _ g6 24 #[.float .f32 z1, .float .f32 z2, .float .f32 z3] (0, 0) _ rfl (blk_put (blk_put (blk_put Xg6 0 _ rfl) 1 _ rfl) 2 _ rfl) Try.underlying24 rfl (by kernel_rfl)) rfl ?_
    exact ⟨z1, z2, z3, by simp_all [mixS], by simp_all [mixS], by simp_all [mixA], rfl, below_set (below_set (below_set hB hg6) hg6) hg6⟩
end Go.Proofs.Ytjffkidfoapbjaa.Fl
