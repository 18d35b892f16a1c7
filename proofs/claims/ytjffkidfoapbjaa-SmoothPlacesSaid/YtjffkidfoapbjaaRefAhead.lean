/- Proved: the walk of Ahead. -/
import Derived.Test.YtjffkidfoapbjaaAhead
import Derived.Test.YtjffkidfoapbjaaMin
import Derived.Test.YtjffkidfoapbjaaStep
namespace Go.Proofs.Ytjffkidfoapbjaa.Fl
open Go.RowKit Go.Proofs.YtjffkidfoapbjaaW.PrintWords Go.Proofs.YtjffkidfoapbjaaW.PrintLast Go.Proofs.YtjffkidfoapbjaaW.PrintMore
set_option linter.unusedVariables false
set_option linter.unusedSimpArgs false
attribute [local go_sem] run_store_float

theorem cap_0 : capF 0 = 0 := if_neg (by rw [show fcmp .gtr 0 1107296256 = false from by kernel_rfl]; exact Bool.false_ne_true)
theorem cap_wait {t : Nat} {wt : Int} (h : fcmp .gtr t 0 = true) (h2 : 0 < wt) : capF (tickF t wt) = 0 := by
  rw [show tickF t wt = 0 from (if_pos h).trans (if_pos h2), cap_0]
theorem cap_none {t : Nat} {wt : Int} (h : ¬ fcmp .gtr t 0 = true) : capF (tickF t wt) = 0 := by
  rw [show tickF t wt = 0 from if_neg h, cap_0]
theorem tick_t {t : Nat} {wt : Int} (h : fcmp .gtr t 0 = true) (h2 : wt ≤ 0) : tickF t wt = t := (if_pos h).trans (if_neg (by omega))
theorem cap_gtr {t : Nat} {wt : Int} (h : fcmp .gtr t 0 = true) (h2 : wt ≤ 0) (h3 : fcmp .gtr t 1107296256 = true) : capF (tickF t wt) = 1107296256 := by
  rw [tick_t h h2]; exact if_pos h3
theorem cap_leq {t : Nat} {wt : Int} (h : fcmp .gtr t 0 = true) (h2 : wt ≤ 0) (h3 : fcmp .gtr t 1107296256 = false) : capF (tickF t wt) = t := by
  rw [tick_t h h2]; exact if_neg (by rw [h3]; exact Bool.false_ne_true)

set_option maxHeartbeats 4000000 in
set_option maxRecDepth 100000 in
theorem refahead_calls (pl x y vx vy hd he en am co wt sp sc : Int) (nm : ByteArray) (t : Nat) (hd0 : -9223372036854775808 ≤ hd) (hd1 : hd ≤ 9223372036854775807) (w : World) : Calls Try.prog 23 #[.agg #[.int .i64 pl, .string nm, .int .i64 x, .int .i64 y, .int .i64 vx, .int .i64 vy, .int .i64 hd, .int .i64 he, .int .i64 en, .int .i64 am, .int .i64 co, .int .i64 wt, .int .i64 sp, .int .i64 sc], .float .f32 t] w fun e w' => ∃ p q r, Fe p (aheadF x vx t wt) ∧ Fe q (aheadF y vy t wt) ∧ Fe r (angF (Go.bits .and .i64 hd 255)) ∧ e = .returned (.agg #[.float .f32 p, .float .f32 q, .float .f32 r]) ∧ Below w.heap.size w w' := by
  have hu40 := Try.underlying40
  have hu38 := Try.underlying38
  have hu24 := Try.underlying24
  have hu22 := Try.underlying22
  have hu3 := Try.underlying3
  have hu2 := Try.underlying2
  go_enter Try.func23, Try.ntmps23
  · skip
    go_wp2_with (first
      | ((try (refine gate_guard (by rfl) ?_; dsimp only)); refine wpList_fl _ rfl _ _ _ _ _ rfl (by decide) _ _ _ _ rfl rfl (by first | assumption | exact Fe.refl _) (by first | assumption | exact Fe.refl _) ?_; intro z nd hz)
      | ((try (refine gate_guard (by rfl) ?_; dsimp only)); refine wpList_flc _ rfl _ _ _ _ _ rfl (by decide) _ _ _ _ rfl rfl (by first | assumption | exact Fe.refl _) (by first | assumption | exact Fe.refl _) ?_)
      | ((with_reducible refine gate_dst (N := 2) rfl ?_); refine box_event ?hg (N := 2) ?hd (cs := #[.int .i64 pl, .string nm, .int .i64 x, .int .i64 y, .int .i64 vx, .int .i64 vy, .int .i64 hd, .int .i64 he, .int .i64 en, .int .i64 am, .int .i64 co, .int .i64 wt, .int .i64 sp, .int .i64 sc]) (t := 40) ?hr ?_; (case hd => rfl); (case hg => rfl); (case hr => first | (go_simp; done) | (go_simp; rfl)); intro g2 eg2 w3 Xg2 Bg2; clear eg2)
      | ((with_reducible refine gate_dst (N := 4) rfl ?_); refine box_event ?hg (N := 4) ?hd (cs := #[.float .f32 0, .float .f32 0, .float .f32 0]) (t := 24) ?hr ?_; (case hd => rfl); (case hg => rfl); (case hr => first | (go_simp; done) | (go_simp; rfl)); intro g4 eg4 w6 Xg4 Bg4; have Xg2 := blk_below Xg2 Bg4; have hg4 : w.heap.size ≤ g4 := (by rw [eg4]; exact Bg2.size); have hB := below_step Bg2 Bg4; clear eg4; have cg2_2 : w6.cell? ⟨g2, 2, none⟩ = some (.int .i64 x) := (blk_cell Xg2 2).trans rfl; have cg2_3 : w6.cell? ⟨g2, 3, none⟩ = some (.int .i64 y) := (blk_cell Xg2 3).trans rfl; have cg2_4 : w6.cell? ⟨g2, 4, none⟩ = some (.int .i64 vx) := (blk_cell Xg2 4).trans rfl; have cg2_5 : w6.cell? ⟨g2, 5, none⟩ = some (.int .i64 vy) := (blk_cell Xg2 5).trans rfl; have cg2_6 : w6.cell? ⟨g2, 6, none⟩ = some (.int .i64 hd) := (blk_cell Xg2 6).trans rfl; have cg2_11 : w6.cell? ⟨g2, 11, none⟩ = some (.int .i64 wt) := (blk_cell Xg2 11).trans rfl; have cg4_0 : w6.cell? ⟨g4, 0, none⟩ = some (.float .f32 0) := (blk_cell Xg4 0).trans rfl; have cg4_1 : w6.cell? ⟨g4, 1, none⟩ = some (.float .f32 0) := (blk_cell Xg4 1).trans rfl; have cg4_2 : w6.cell? ⟨g4, 2, none⟩ = some (.float .f32 0) := (blk_cell Xg4 2).trans rfl; have fg4_0 := blk_frozen Xg4 0; have fg4_1 := blk_frozen Xg4 1; have fg4_2 := blk_frozen Xg4 2)
      | (go_at_call 21; refine (refof_calls x y hd hd0 hd1 _).mono ?_; rintro e w7 ⟨p0, q0, r0, hp0, hq0, hr0, rfl, hb⟩; have Xg2 := blk_below Xg2 hb; have Xg4 := blk_below Xg4 hb; have hB := below_step hB hb; clear hb)
      | ((with_reducible refine gate_dst (N := 5) rfl ?_); refine box_event ?hg (N := 5) ?hd (cs := #[.float .f32 0, .float .f32 0, .float .f32 0]) (t := 24) ?hr ?_; (case hd => rfl); (case hg => rfl); (case hr => first | (go_simp; done) | (go_simp; rfl)); intro g5 eg5 w8 Xg5 Bg5; have hg5 : w.heap.size ≤ g5 := (by rw [eg5]; exact hB.size); have n25 : g2 ≠ g5 := (by rw [eg5]; exact Nat.ne_of_lt (blk_lt Xg2)); have n45 : g4 ≠ g5 := (by rw [eg5]; exact Nat.ne_of_lt (blk_lt Xg4)); have Xg2 := blk_below Xg2 Bg5; have Xg4 := blk_below Xg4 Bg5; have hB := below_step hB Bg5; clear eg5; have cg5_0 : w8.cell? ⟨g5, 0, none⟩ = some (.float .f32 0) := (blk_cell Xg5 0).trans rfl; have cg5_1 : w8.cell? ⟨g5, 1, none⟩ = some (.float .f32 0) := (blk_cell Xg5 1).trans rfl; have cg5_2 : w8.cell? ⟨g5, 2, none⟩ = some (.float .f32 0) := (blk_cell Xg5 2).trans rfl; have fg5_0 := blk_frozen Xg5 0; have fg5_1 := blk_frozen Xg5 1; have fg5_2 := blk_frozen Xg5 2))
    all_goals
      skip
      have Yg2 := blk_far (blk_far (blk_far Xg2 (p := ⟨g5, 0, none⟩) n25 (.float .f32 p0)) (p := ⟨g5, 1, none⟩) n25 (.float .f32 q0)) (p := ⟨g5, 2, none⟩) n25 (.float .f32 r0)
      have Yg4 := blk_far (blk_far (blk_far Xg4 (p := ⟨g5, 0, none⟩) n45 (.float .f32 p0)) (p := ⟨g5, 1, none⟩) n45 (.float .f32 q0)) (p := ⟨g5, 2, none⟩) n45 (.float .f32 r0)
      have Yg5 := blk_put (blk_put (blk_put Xg5 0 (.float .f32 p0) rfl) 1 (.float .f32 q0) rfl) 2 (.float .f32 r0) rfl
      have hB := below_set (j := 2) (v := .float .f32 r0) (below_set (j := 1) (v := .float .f32 q0) (below_set (j := 0) (v := .float .f32 p0) hB hg5) hg5) hg5
      clear Xg2 Xg4 Xg5
      generalize (((w8.setCell ⟨g5, 0, none⟩ (.float .f32 p0)).setCell ⟨g5, 1, none⟩ (.float .f32 q0)).setCell ⟨g5, 2, none⟩ (.float .f32 r0)) = w9 at Yg2 Yg4 Yg5 hB ⊢
      have Xg2 := Yg2
      have Xg4 := Yg4
      have Xg5 := Yg5
      clear Yg2 Yg4 Yg5
      refine start_ (n := 11) (S := fun w' => w'.cell? ⟨g5, 0, none⟩ = some (.float .f32 p0) ∧ w'.cell? ⟨g2, 4, none⟩ = some (.int .i64 vx)) (ds := [10]) #[false, false, false, false, false, false, false, false, false, false, false] (by kernel_rfl) rfl rfl ⟨(blk_cell Xg5 0).trans rfl, (blk_cell Xg2 4).trans rfl⟩ (fun hHeld => ?_)
      refine pure_ (i := 0) (N := some 21) (v := ?_) (a' := ?_) #[true, false, false, false, false, false, false, false, false, false, false] rfl rfl (by kernel_rfl) (fun _ _ _ h => h) (Or.inl ⟨by rfl, ?_⟩) ?_ ?_
      rotate_left
      · intro w'
        go_simp
        with_reducible rfl
      rotate_left
      · simp only [Act.put, List.setIfInBounds_toArray, List.set_cons_zero, List.set_cons_succ, i64_w, i32_w]
        rfl
      refine pure_ (i := 2) (N := some 23) (v := ?_) (a' := ?_) #[true, false, true, false, false, false, false, false, false, false, false] rfl rfl (by kernel_rfl) (fun _ _ _ h => h) (Or.inl ⟨by rfl, ?_⟩) ?_ ?_
      rotate_left
      · intro w'
        go_simp
        with_reducible rfl
      rotate_left
      · simp only [Act.put, List.setIfInBounds_toArray, List.set_cons_zero, List.set_cons_succ, i64_w, i32_w]
        rfl
      refine pure_ (i := 3) (N := some 24) (v := ?_) (a' := ?_) #[true, false, true, true, false, false, false, false, false, false, false] rfl rfl (by kernel_rfl) (fun _ _ _ h => h) (Or.inl ⟨by rfl, ?_⟩) ?_ ?_
      rotate_left
      · intro w'
        go_simp
        with_reducible rfl
      rotate_left
      · simp only [Act.put, List.setIfInBounds_toArray, List.set_cons_zero, List.set_cons_succ, i64_w, i32_w]
        rfl
      refine pure_ (i := 6) (N := some 27) (v := ?_) (a' := ?_) #[true, false, true, true, false, false, true, false, false, false, false] rfl rfl (by kernel_rfl) (fun _ _ _ h => h) (Or.inl ⟨by rfl, ?_⟩) ?_ ?_
      rotate_left
      · intro w'
        go_simp
        with_reducible rfl
      rotate_left
      · simp only [Act.put, List.setIfInBounds_toArray, List.set_cons_zero, List.set_cons_succ, i64_w, i32_w]
        rfl
      refine take_ (i := 1) (N := some 22) (v := ?_) (a' := ?_) #[true, true, true, true, false, false, true, false, false, false, false] rfl rfl (by kernel_rfl) (fun _ _ _ h => h) (Or.inl ⟨by rfl, ?_⟩) hHeld ?_ ?_
      rotate_left
      · rintro w' ⟨s0, s1⟩
        go_simp
        with_reducible rfl
      rotate_left
      · simp only [Act.put, List.setIfInBounds_toArray, List.set_cons_zero, List.set_cons_succ, i64_w, i32_w]
        rfl
      refine take_ (i := 4) (N := some 25) (v := ?_) (a' := ?_) #[true, true, true, true, true, false, true, false, false, false, false] rfl rfl (by kernel_rfl) (fun _ _ _ h => h) (Or.inl ⟨by rfl, ?_⟩) hHeld ?_ ?_
      rotate_left
      · rintro w' ⟨s0, s1⟩
        go_simp
        with_reducible rfl
      rotate_left
      · simp only [Act.put, List.setIfInBounds_toArray, List.set_cons_zero, List.set_cons_succ, i64_w, i32_w]
        rfl
      refine one_ (i := 5) (N := some 26) #[true, true, true, true, true, true, true, false, false, false, false] rfl rfl (by kernel_rfl) (by decide) (fun K hK => ?_)
      refine goes_ Try.func35 (by kernel_rfl) rfl _ (by rfl) rfl rfl (by simp only [List.map_toArray, List.map_cons, List.map_nil]; rfl) ?_
      refine (reffloat_calls vx _).mono ?_
      rintro e uf1 ⟨f1, hf1, rfl, hdf1⟩
      refine ⟨_, rfl, ?_⟩
      have Xg2 := dblk hdf1 Xg2
      have Xg4 := dblk hdf1 Xg4
      have Xg5 := dblk hdf1 Xg5
      have hB := dbelow hdf1 (below_drew1 hB)
      refine hK.out _ _ ⟨dcell hdf1 (hHeld.1), dcell hdf1 (hHeld.2)⟩ (fun hHeld => ?_)
      clear hK K
      refine norm_ (a' := ?_) ?_ ?_
      rotate_left
      · show Act.put _ (some 26) _ = _
        simp only [Act.put, List.setIfInBounds_toArray, List.set_cons_zero, List.set_cons_succ, i64_w, i32_w]
        rfl
      refine one_ (i := 7) (N := some 28) #[true, true, true, true, true, true, true, true, false, false, false] rfl rfl (by kernel_rfl) (by decide) (fun K hK => ?_)
      refine goes_ Try.func33 (by kernel_rfl) rfl _ (by rfl) rfl rfl (by simp only [List.map_toArray, List.map_cons, List.map_nil]; rfl) ?_
      refine (times_calls _ _ _ _ (by first | assumption | exact Fe.refl _) (by first | assumption | exact Fe.refl _) _).mono ?_
      rintro e um1 ⟨m1, hm1, rfl, hdm1⟩
      refine ⟨_, rfl, ?_⟩
      have Xg2 := dblk hdm1 Xg2
      have Xg4 := dblk hdm1 Xg4
      have Xg5 := dblk hdm1 Xg5
      have hB := dbelow hdm1 hB
      refine hK.out _ _ ⟨dcell hdm1 (hHeld.1), dcell hdm1 (hHeld.2)⟩ (fun hHeld => ?_)
      clear hK K
      refine norm_ (a' := ?_) ?_ ?_
      rotate_left
      · show Act.put _ (some 28) _ = _
        simp only [Act.put, List.setIfInBounds_toArray, List.set_cons_zero, List.set_cons_succ, i64_w, i32_w]
        rfl
      refine one_ (i := 8) (N := some 29) #[true, true, true, true, true, true, true, true, true, false, false] rfl rfl (by kernel_rfl) (by decide) (fun K hK => ?_)
      refine goes_ Try.func32 (by kernel_rfl) rfl _ (by rfl) rfl rfl (by simp only [List.map_toArray, List.map_cons, List.map_nil]; rfl) ?_
      refine (plus_calls _ _ _ _ (by first | assumption | exact Fe.refl _) (by first | assumption | exact Fe.refl _) _).mono ?_
      rintro e us1 ⟨s1, hs1, rfl, hds1⟩
      refine ⟨_, rfl, ?_⟩
      have Xg2 := dblk hds1 Xg2
      have Xg4 := dblk hds1 Xg4
      have Xg5 := dblk hds1 Xg5
      have hB := dbelow hds1 hB
      refine hK.out _ _ ⟨dcell hds1 (hHeld.1), dcell hds1 (hHeld.2)⟩ (fun hHeld => ?_)
      clear hK K
      refine norm_ (a' := ?_) ?_ ?_
      rotate_left
      · show Act.put _ (some 29) _ = _
        simp only [Act.put, List.setIfInBounds_toArray, List.set_cons_zero, List.set_cons_succ, i64_w, i32_w]
        rfl
      refine pure_ (i := 9) (N := some 30) (v := ?_) (a' := ?_) #[true, true, true, true, true, true, true, true, true, true, false] rfl rfl (by kernel_rfl) (fun _ _ _ h => h) (Or.inl ⟨by rfl, ?_⟩) ?_ ?_
      rotate_left
      · intro w'
        go_simp
        with_reducible rfl
      rotate_left
      · simp only [Act.put, List.setIfInBounds_toArray, List.set_cons_zero, List.set_cons_succ, i64_w, i32_w]
        rfl
      refine last_ (i := 10) (N := none) #[true, true, true, true, true, true, true, true, true, true, true] rfl rfl (by kernel_rfl) (by decide) (fun K hK => ?_)
      have hs := (blk_cell Xg5 0).trans (show _ = some (.float .f32 p0) from rfl)
      have hs2 := blk_frozen Xg5 0
      refine skip_ (w1 := ?_) (by rfl) rfl ?_ ?_
      rotate_left
      · go_simp
        rfl
      refine hK.out _ _ ?_
      clear hK K
      refine done_ (by kernel_rfl) ?_
  
      have Z2 := blk_far (w := us1) Xg2 (p := ⟨g5, 0, none⟩) n25 (.float .f32 s1)
      have Z4 := blk_far (w := us1) Xg4 (p := ⟨g5, 0, none⟩) n45 (.float .f32 s1)
      have Z5 := blk_put (w := us1) Xg5 0 (.float .f32 s1) rfl
      have hB := below_set (j := 0) (v := (.float .f32 s1)) hB hg5
      clear Xg2 Xg4 Xg5
      generalize (us1).setCell ⟨g5, 0, none⟩ (.float .f32 s1) = w10 at Z2 Z4 Z5 hB ⊢
      have Xg2 := Z2
      have Xg4 := Z4
      have Xg5 := Z5
      clear Z2 Z4 Z5
      go_wp2
      refine start_ (n := 11) (S := fun w' => w'.cell? ⟨g5, 1, none⟩ = some (.float .f32 q0) ∧ w'.cell? ⟨g2, 5, none⟩ = some (.int .i64 vy)) (ds := [10]) #[false, false, false, false, false, false, false, false, false, false, false] (by kernel_rfl) rfl rfl ⟨(blk_cell Xg5 1).trans rfl, (blk_cell Xg2 5).trans rfl⟩ (fun hHeld => ?_)
      refine pure_ (i := 0) (N := some 31) (v := ?_) (a' := ?_) #[true, false, false, false, false, false, false, false, false, false, false] rfl rfl (by kernel_rfl) (fun _ _ _ h => h) (Or.inl ⟨by rfl, ?_⟩) ?_ ?_
      rotate_left
      · intro w'
        go_simp
        with_reducible rfl
      rotate_left
      · simp only [Act.put, List.setIfInBounds_toArray, List.set_cons_zero, List.set_cons_succ, i64_w, i32_w]
        rfl
      refine pure_ (i := 2) (N := some 33) (v := ?_) (a' := ?_) #[true, false, true, false, false, false, false, false, false, false, false] rfl rfl (by kernel_rfl) (fun _ _ _ h => h) (Or.inl ⟨by rfl, ?_⟩) ?_ ?_
      rotate_left
      · intro w'
        go_simp
        with_reducible rfl
      rotate_left
      · simp only [Act.put, List.setIfInBounds_toArray, List.set_cons_zero, List.set_cons_succ, i64_w, i32_w]
        rfl
      refine pure_ (i := 3) (N := some 34) (v := ?_) (a' := ?_) #[true, false, true, true, false, false, false, false, false, false, false] rfl rfl (by kernel_rfl) (fun _ _ _ h => h) (Or.inl ⟨by rfl, ?_⟩) ?_ ?_
      rotate_left
      · intro w'
        go_simp
        with_reducible rfl
      rotate_left
      · simp only [Act.put, List.setIfInBounds_toArray, List.set_cons_zero, List.set_cons_succ, i64_w, i32_w]
        rfl
      refine pure_ (i := 6) (N := some 37) (v := ?_) (a' := ?_) #[true, false, true, true, false, false, true, false, false, false, false] rfl rfl (by kernel_rfl) (fun _ _ _ h => h) (Or.inl ⟨by rfl, ?_⟩) ?_ ?_
      rotate_left
      · intro w'
        go_simp
        with_reducible rfl
      rotate_left
      · simp only [Act.put, List.setIfInBounds_toArray, List.set_cons_zero, List.set_cons_succ, i64_w, i32_w]
        rfl
      refine take_ (i := 1) (N := some 32) (v := ?_) (a' := ?_) #[true, true, true, true, false, false, true, false, false, false, false] rfl rfl (by kernel_rfl) (fun _ _ _ h => h) (Or.inl ⟨by rfl, ?_⟩) hHeld ?_ ?_
      rotate_left
      · rintro w' ⟨s0, s1⟩
        go_simp
        with_reducible rfl
      rotate_left
      · simp only [Act.put, List.setIfInBounds_toArray, List.set_cons_zero, List.set_cons_succ, i64_w, i32_w]
        rfl
      refine take_ (i := 4) (N := some 35) (v := ?_) (a' := ?_) #[true, true, true, true, true, false, true, false, false, false, false] rfl rfl (by kernel_rfl) (fun _ _ _ h => h) (Or.inl ⟨by rfl, ?_⟩) hHeld ?_ ?_
      rotate_left
      · rintro w' ⟨s0, s1⟩
        go_simp
        with_reducible rfl
      rotate_left
      · simp only [Act.put, List.setIfInBounds_toArray, List.set_cons_zero, List.set_cons_succ, i64_w, i32_w]
        rfl
      refine one_ (i := 5) (N := some 36) #[true, true, true, true, true, true, true, false, false, false, false] rfl rfl (by kernel_rfl) (by decide) (fun K hK => ?_)
      refine goes_ Try.func35 (by kernel_rfl) rfl _ (by rfl) rfl rfl (by simp only [List.map_toArray, List.map_cons, List.map_nil]; rfl) ?_
      refine (reffloat_calls vy _).mono ?_
      rintro e uf2 ⟨f2, hf2, rfl, hdf2⟩
      refine ⟨_, rfl, ?_⟩
      have Xg2 := dblk hdf2 Xg2
      have Xg4 := dblk hdf2 Xg4
      have Xg5 := dblk hdf2 Xg5
      have hB := dbelow hdf2 (below_drew1 hB)
      refine hK.out _ _ ⟨dcell hdf2 (hHeld.1), dcell hdf2 (hHeld.2)⟩ (fun hHeld => ?_)
      clear hK K
      refine norm_ (a' := ?_) ?_ ?_
      rotate_left
      · show Act.put _ (some 36) _ = _
        simp only [Act.put, List.setIfInBounds_toArray, List.set_cons_zero, List.set_cons_succ, i64_w, i32_w]
        rfl
      refine one_ (i := 7) (N := some 38) #[true, true, true, true, true, true, true, true, false, false, false] rfl rfl (by kernel_rfl) (by decide) (fun K hK => ?_)
      refine goes_ Try.func33 (by kernel_rfl) rfl _ (by rfl) rfl rfl (by simp only [List.map_toArray, List.map_cons, List.map_nil]; rfl) ?_
      refine (times_calls _ _ _ _ (by first | assumption | exact Fe.refl _) (by first | assumption | exact Fe.refl _) _).mono ?_
      rintro e um2 ⟨m2, hm2, rfl, hdm2⟩
      refine ⟨_, rfl, ?_⟩
      have Xg2 := dblk hdm2 Xg2
      have Xg4 := dblk hdm2 Xg4
      have Xg5 := dblk hdm2 Xg5
      have hB := dbelow hdm2 hB
      refine hK.out _ _ ⟨dcell hdm2 (hHeld.1), dcell hdm2 (hHeld.2)⟩ (fun hHeld => ?_)
      clear hK K
      refine norm_ (a' := ?_) ?_ ?_
      rotate_left
      · show Act.put _ (some 38) _ = _
        simp only [Act.put, List.setIfInBounds_toArray, List.set_cons_zero, List.set_cons_succ, i64_w, i32_w]
        rfl
      refine one_ (i := 8) (N := some 39) #[true, true, true, true, true, true, true, true, true, false, false] rfl rfl (by kernel_rfl) (by decide) (fun K hK => ?_)
      refine goes_ Try.func32 (by kernel_rfl) rfl _ (by rfl) rfl rfl (by simp only [List.map_toArray, List.map_cons, List.map_nil]; rfl) ?_
      refine (plus_calls _ _ _ _ (by first | assumption | exact Fe.refl _) (by first | assumption | exact Fe.refl _) _).mono ?_
      rintro e us2 ⟨s2, hs2, rfl, hds2⟩
      refine ⟨_, rfl, ?_⟩
      have Xg2 := dblk hds2 Xg2
      have Xg4 := dblk hds2 Xg4
      have Xg5 := dblk hds2 Xg5
      have hB := dbelow hds2 hB
      refine hK.out _ _ ⟨dcell hds2 (hHeld.1), dcell hds2 (hHeld.2)⟩ (fun hHeld => ?_)
      clear hK K
      refine norm_ (a' := ?_) ?_ ?_
      rotate_left
      · show Act.put _ (some 39) _ = _
        simp only [Act.put, List.setIfInBounds_toArray, List.set_cons_zero, List.set_cons_succ, i64_w, i32_w]
        rfl
      refine pure_ (i := 9) (N := some 40) (v := ?_) (a' := ?_) #[true, true, true, true, true, true, true, true, true, true, false] rfl rfl (by kernel_rfl) (fun _ _ _ h => h) (Or.inl ⟨by rfl, ?_⟩) ?_ ?_
      rotate_left
      · intro w'
        go_simp
        with_reducible rfl
      rotate_left
      · simp only [Act.put, List.setIfInBounds_toArray, List.set_cons_zero, List.set_cons_succ, i64_w, i32_w]
        rfl
      refine last_ (i := 10) (N := none) #[true, true, true, true, true, true, true, true, true, true, true] rfl rfl (by kernel_rfl) (by decide) (fun K hK => ?_)
      have hs := (blk_cell Xg5 1).trans (show _ = some (.float .f32 q0) from rfl)
      have hs2 := blk_frozen Xg5 1
      refine skip_ (w1 := ?_) (by rfl) rfl ?_ ?_
      rotate_left
      · go_simp
        rfl
      refine hK.out _ _ ?_
      clear hK K
      refine done_ (by kernel_rfl) ?_
  
      have Z2 := blk_far (w := us2) Xg2 (p := ⟨g5, 1, none⟩) n25 (.float .f32 s2)
      have Z4 := blk_far (w := us2) Xg4 (p := ⟨g5, 1, none⟩) n45 (.float .f32 s2)
      have Z5 := blk_put (w := us2) Xg5 1 (.float .f32 s2) rfl
      have hB := below_set (j := 1) (v := (.float .f32 s2)) hB hg5
      clear Xg2 Xg4 Xg5
      generalize (us2).setCell ⟨g5, 1, none⟩ (.float .f32 s2) = w11 at Z2 Z4 Z5 hB ⊢
      have Xg2 := Z2
      have Xg4 := Z4
      have Xg5 := Z5
      clear Z2 Z4 Z5
      have hg5c := Xg5
      have cg5_0 : w11.cell? ⟨g5, 0, none⟩ = some (.float .f32 s1) := (blk_cell Xg5 0).trans rfl
      have cg5_1 : w11.cell? ⟨g5, 1, none⟩ = some (.float .f32 s2) := (blk_cell Xg5 1).trans rfl
      have cg5_2 : w11.cell? ⟨g5, 2, none⟩ = some (.float .f32 r0) := (blk_cell Xg5 2).trans rfl
      have fg5_0 := blk_frozen Xg5 0
      have fg5_1 := blk_frozen Xg5 1
      have fg5_2 := blk_frozen Xg5 2
      have cg4_0 : w11.cell? ⟨g4, 0, none⟩ = some (.float .f32 0) := (blk_cell Xg4 0).trans rfl
      have cg4_1 : w11.cell? ⟨g4, 1, none⟩ = some (.float .f32 0) := (blk_cell Xg4 1).trans rfl
      have cg4_2 : w11.cell? ⟨g4, 2, none⟩ = some (.float .f32 0) := (blk_cell Xg4 2).trans rfl
      have fg4_0 := blk_frozen Xg4 0
      have fg4_1 := blk_frozen Xg4 1
      have fg4_2 := blk_frozen Xg4 2
      go_wp2
      (try simp only [Exit.inBlock, Exit.then]); refine bodyPost_ret (results_cell_row rfl _ _ g4 24 #[.float .f32 s1, .float .f32 s2, .float .f32 r0] (0, 0) _ rfl (blk_put (blk_put (blk_put Xg4 0 _ rfl) 1 _ rfl) 2 _ rfl) Try.underlying24 rfl (by kernel_rfl)) rfl ?_
      exact ⟨s1, s2, r0, by unfold aheadF; first | (rw [cap_wait (by assumption) (by assumption)]; assumption) | (rw [cap_gtr (by assumption) (by assumption) (by assumption)]; assumption) | (rw [cap_leq (by assumption) (by assumption) (by assumption)]; assumption) | (rw [cap_none (by assumption)]; assumption), by unfold aheadF; first | (rw [cap_wait (by assumption) (by assumption)]; assumption) | (rw [cap_gtr (by assumption) (by assumption) (by assumption)]; assumption) | (rw [cap_leq (by assumption) (by assumption) (by assumption)]; assumption) | (rw [cap_none (by assumption)]; assumption), hr0, rfl, below_set (below_set (below_set hB hg4) hg4) hg4⟩
end Go.Proofs.Ytjffkidfoapbjaa.Fl
