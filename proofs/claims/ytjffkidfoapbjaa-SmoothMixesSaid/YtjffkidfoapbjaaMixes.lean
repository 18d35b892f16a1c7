/- Proved: the walk of SmoothMixes: true for every input. -/
import Derived.Test.YtjffkidfoapbjaaRefMix
import Derived.Test.YtjffkidfoapbjaaOne
import Derived.Test.YtjffkidfoapbjaaAlive
namespace Go.Proofs.Ytjffkidfoapbjaa.Fl
open Go.RowKit Go.Proofs.YtjffkidfoapbjaaW.PrintWords Go.Proofs.YtjffkidfoapbjaaW.PrintLast Go.Proofs.YtjffkidfoapbjaaW.PrintMore
set_option linter.unusedVariables false
set_option linter.unusedSimpArgs false
attribute [local go_sem] run_store_float

theorem pick3 (a b c k : Nat) (h : k < 3) : ∃ t : Nat, #[Value.float .f32 a, Value.float .f32 b, Value.float .f32 c][k]? = some (.float .f32 t) := by
  match k, h with
  | 0, _ => exact ⟨a, rfl⟩
  | 1, _ => exact ⟨b, rfl⟩
  | 2, _ => exact ⟨c, rfl⟩

set_option maxHeartbeats 8000000 in
set_option maxRecDepth 100000 in
theorem mixes_any (ax ay aa bx by_ ba t : Nat) (w : World) : Calls Try.prog 3 #[.agg #[.float .f32 ax, .float .f32 ay, .float .f32 aa], .agg #[.float .f32 bx, .float .f32 by_, .float .f32 ba], .float .f32 t] w fun e w' => e = .returned (.bool true) ∧ Below w.heap.size w w' := by
  have hu24 := Try.underlying24
  have hu26 := Try.underlying26
  go_enter Try.func3, Try.ntmps3
  go_wp2_with (first
      | ((try (refine gate_guard (by rfl) ?_; dsimp only)); refine wpList_fl _ rfl _ _ _ _ _ rfl (by decide) _ _ _ _ rfl rfl (by first | assumption | exact Fe.refl _) (by first | assumption | exact Fe.refl _) ?_; intro z nd hz)
      | ((try (refine gate_guard (by rfl) ?_; dsimp only)); refine wpList_flc _ rfl _ _ _ _ _ rfl (by decide) _ _ _ _ rfl rfl (by first | assumption | exact Fe.refl _) (by first | assumption | exact Fe.refl _) ?_)
      | ((with_reducible refine gate_dst (N := 3) rfl ?_); refine box_event ?hg (N := 3) ?hd (cs := #[.float .f32 ax, .float .f32 ay, .float .f32 aa]) (t := 24) ?hr ?_; (case hd => rfl); (case hg => rfl); (case hr => first | (go_simp; done) | (go_simp; rfl)); intro g3 eg3 w3 Xg3 Bg3; clear eg3)
      | ((with_reducible refine gate_dst (N := 4) rfl ?_); refine box_event ?hg (N := 4) ?hd (cs := #[.float .f32 bx, .float .f32 by_, .float .f32 ba]) (t := 24) ?hr ?_; (case hd => rfl); (case hg => rfl); (case hr => first | (go_simp; done) | (go_simp; rfl)); intro g4 eg4 w4 Xg4 Bg4; have Xg3 := blk_below Xg3 Bg4; have hB := below_step Bg3 Bg4; clear eg4 Bg3 Bg4; have cg3_0 : w4.cell? ⟨g3, 0, none⟩ = some (.float .f32 ax) := (blk_cell Xg3 0).trans rfl; have cg3_1 : w4.cell? ⟨g3, 1, none⟩ = some (.float .f32 ay) := (blk_cell Xg3 1).trans rfl; have cg3_2 : w4.cell? ⟨g3, 2, none⟩ = some (.float .f32 aa) := (blk_cell Xg3 2).trans rfl; have fg3_0 := blk_frozen Xg3 0; have fg3_1 := blk_frozen Xg3 1; have fg3_2 := blk_frozen Xg3 2; have cg4_0 : w4.cell? ⟨g4, 0, none⟩ = some (.float .f32 bx) := (blk_cell Xg4 0).trans rfl; have cg4_1 : w4.cell? ⟨g4, 1, none⟩ = some (.float .f32 by_) := (blk_cell Xg4 1).trans rfl; have cg4_2 : w4.cell? ⟨g4, 2, none⟩ = some (.float .f32 ba) := (blk_cell Xg4 2).trans rfl; have fg4_0 := blk_frozen Xg4 0; have fg4_1 := blk_frozen Xg4 1; have fg4_2 := blk_frozen Xg4 2)
      | ((with_reducible refine gate_dst (N := 7) rfl ?_); refine box_event ?hg (N := 7) ?hd (cs := #[.float .f32 0, .float .f32 0, .float .f32 0]) (t := 26) ?hr ?_; (case hd => rfl); (case hg => rfl); (case hr => first | (go_simp; done) | (go_simp; rfl)); intro g7 eg7 w6 Xg7 Bg7; have hg7 : w.heap.size ≤ g7 := (by rw [eg7]; exact hB.size); have n37 : g3 ≠ g7 := (by rw [eg7]; exact Nat.ne_of_lt (blk_lt Xg3)); have n47 : g4 ≠ g7 := (by rw [eg7]; exact Nat.ne_of_lt (blk_lt Xg4)); have Xg3 : w6.heap[g3]? = some (.cells #[.float .f32 ax, .float .f32 ay, .float .f32 aa] 24 (0, 0)) := (Bg7.block g3 (blk_lt Xg3)).trans Xg3; have Xg4 : w6.heap[g4]? = some (.cells #[.float .f32 bx, .float .f32 by_, .float .f32 ba] 24 (0, 0)) := (Bg7.block g4 (blk_lt Xg4)).trans Xg4; have hB := below_step (pw_below_drewN hB _) Bg7; clear eg7 Bg7; have cg7_0 : w6.cell? ⟨g7, 0, none⟩ = some (.float .f32 0) := (blk_cell Xg7 0).trans rfl; have cg7_1 : w6.cell? ⟨g7, 1, none⟩ = some (.float .f32 0) := (blk_cell Xg7 1).trans rfl; have cg7_2 : w6.cell? ⟨g7, 2, none⟩ = some (.float .f32 0) := (blk_cell Xg7 2).trans rfl; have fg7_0 := blk_frozen Xg7 0; have fg7_1 := blk_frozen Xg7 1; have fg7_2 := blk_frozen Xg7 2)
      | (go_at_call 10; refine (alive_calls _).mono ?_; rintro e w5 ⟨rfl, hb⟩; have Xg3 := blk_below Xg3 hb; have Xg4 := blk_below Xg4 hb; have hB := below_step hB hb; clear hb; have cg3_0 : w5.cell? ⟨g3, 0, none⟩ = some (.float .f32 ax) := (blk_cell Xg3 0).trans rfl; have cg3_1 : w5.cell? ⟨g3, 1, none⟩ = some (.float .f32 ay) := (blk_cell Xg3 1).trans rfl; have cg3_2 : w5.cell? ⟨g3, 2, none⟩ = some (.float .f32 aa) := (blk_cell Xg3 2).trans rfl; have fg3_0 := blk_frozen Xg3 0; have fg3_1 := blk_frozen Xg3 1; have fg3_2 := blk_frozen Xg3 2; have cg4_0 : w5.cell? ⟨g4, 0, none⟩ = some (.float .f32 bx) := (blk_cell Xg4 0).trans rfl; have cg4_1 : w5.cell? ⟨g4, 1, none⟩ = some (.float .f32 by_) := (blk_cell Xg4 1).trans rfl; have cg4_2 : w5.cell? ⟨g4, 2, none⟩ = some (.float .f32 ba) := (blk_cell Xg4 2).trans rfl; have fg4_0 := blk_frozen Xg4 0; have fg4_1 := blk_frozen Xg4 1; have fg4_2 := blk_frozen Xg4 2))
  go_loopw [8] (fun i wr => ∃ (k t1 t2 t3 : Nat), k ≤ 3 ∧ i = .int .i64 k ∧ Aside0 (wr.heap[g3]? = some (.cells #[.float .f32 ax, .float .f32 ay, .float .f32 aa] 24 (0, 0))) ∧ Aside0 (wr.heap[g4]? = some (.cells #[.float .f32 bx, .float .f32 by_, .float .f32 ba] 24 (0, 0))) ∧ Aside0 (wr.heap[g7]? = some (.cells #[.float .f32 t1, .float .f32 t2, .float .f32 t3] 26 (0, 0))) ∧ Aside0 (Below w.heap.size w wr))
    (fun i _ => 3 - (intOf i).toNat)
  case atStart => exact ⟨0, _, _, _, by omega, rfl, ⟨blk_far (blk_far (blk_far Xg3 n37 _) n37 _) n37 _⟩, ⟨blk_far (blk_far (blk_far Xg4 n47 _) n47 _) n47 _⟩, ⟨blk_put (blk_put (blk_put Xg7 0 _ rfl) 1 _ rfl) 2 _ rfl⟩, ⟨below_set (below_set (below_set hB hg7) hg7) hg7⟩⟩
  case round =>
    obtain ⟨k, t1, t2, t3, hk, rfl, H3, H4, H7, HB⟩ := hrel
    have Xg3 := H3.out
    have Xg4 := H4.out
    have Xg7 := H7.out
    have hB := HB.out
    clear H3 H4 H7 HB
    have cg3_0 : wr.cell? ⟨g3, 0, none⟩ = some (.float .f32 ax) := (blk_cell Xg3 0).trans rfl
    have cg3_1 : wr.cell? ⟨g3, 1, none⟩ = some (.float .f32 ay) := (blk_cell Xg3 1).trans rfl
    have cg3_2 : wr.cell? ⟨g3, 2, none⟩ = some (.float .f32 aa) := (blk_cell Xg3 2).trans rfl
    have cg4_0 : wr.cell? ⟨g4, 0, none⟩ = some (.float .f32 bx) := (blk_cell Xg4 0).trans rfl
    have cg4_1 : wr.cell? ⟨g4, 1, none⟩ = some (.float .f32 by_) := (blk_cell Xg4 1).trans rfl
    have cg4_2 : wr.cell? ⟨g4, 2, none⟩ = some (.float .f32 ba) := (blk_cell Xg4 2).trans rfl
    by_cases hlt : k < 3
    · obtain ⟨tk, htk⟩ := pick3 t1 t2 t3 k hlt
      have cg7_k : wr.cell? ⟨g7, k, none⟩ = some (.float .f32 tk) := (blk_cell Xg7 k).trans htk
      have hk2 : (k : Int) < 3 := by omega
      have hk0 : (0 : Int) ≤ k := Int.natCast_nonneg k
      go_wp2_with fail
      refine start_ (n := 30) (S := fun w' => w'.cell? ⟨g3, 0, none⟩ = some (.float .f32 ax) ∧ w'.cell? ⟨g3, 1, none⟩ = some (.float .f32 ay) ∧ w'.cell? ⟨g3, 2, none⟩ = some (.float .f32 aa) ∧ w'.cell? ⟨g4, 0, none⟩ = some (.float .f32 bx) ∧ w'.cell? ⟨g4, 1, none⟩ = some (.float .f32 by_) ∧ w'.cell? ⟨g4, 2, none⟩ = some (.float .f32 ba) ∧ w'.cell? ⟨g7, k, none⟩ = some (.float .f32 tk)) (ds := []) #[false, false, false, false, false, false, false, false, false, false, false, false, false, false, false, false, false, false, false, false, false, false, false, false, false, false, false, false, false, false] (by kernel_rfl) rfl rfl ⟨cg3_0, cg3_1, cg3_2, cg4_0, cg4_1, cg4_2, cg7_k⟩ (fun hHeld => ?_)
      refine pure_ (i := 2) (N := some 23) (v := ?_) (a' := ?_) #[false, false, true, false, false, false, false, false, false, false, false, false, false, false, false, false, false, false, false, false, false, false, false, false, false, false, false, false, false, false] rfl rfl (by kernel_rfl) (fun _ _ _ h => h) (Or.inl ⟨by rfl, ?_⟩) ?_ ?_
      rotate_left
      · intro w'
        go_simp
        with_reducible rfl
      rotate_left
      · simp only [Act.put, List.setIfInBounds_toArray, List.set_cons_zero, List.set_cons_succ, i64_w, i32_w]
        rfl
      refine pure_ (i := 3) (N := some 24) (v := ?_) (a' := ?_) #[false, false, true, true, false, false, false, false, false, false, false, false, false, false, false, false, false, false, false, false, false, false, false, false, false, false, false, false, false, false] rfl rfl (by kernel_rfl) (fun _ _ _ h => h) (Or.inl ⟨by rfl, ?_⟩) ?_ ?_
      rotate_left
      · intro w'
        go_simp
        with_reducible rfl
      rotate_left
      · simp only [Act.put, List.setIfInBounds_toArray, List.set_cons_zero, List.set_cons_succ, i64_w, i32_w]
        rfl
      refine pure_ (i := 8) (N := some 29) (v := ?_) (a' := ?_) #[false, false, true, true, false, false, false, false, true, false, false, false, false, false, false, false, false, false, false, false, false, false, false, false, false, false, false, false, false, false] rfl rfl (by kernel_rfl) (fun _ _ _ h => h) (Or.inl ⟨by rfl, ?_⟩) ?_ ?_
      rotate_left
      · intro w'
        go_simp
        with_reducible rfl
      rotate_left
      · simp only [Act.put, List.setIfInBounds_toArray, List.set_cons_zero, List.set_cons_succ, i64_w, i32_w]
        rfl
      refine pure_ (i := 9) (N := some 30) (v := ?_) (a' := ?_) #[false, false, true, true, false, false, false, false, true, true, false, false, false, false, false, false, false, false, false, false, false, false, false, false, false, false, false, false, false, false] rfl rfl (by kernel_rfl) (fun _ _ _ h => h) (Or.inl ⟨by rfl, ?_⟩) ?_ ?_
      rotate_left
      · intro w'
        go_simp
        with_reducible rfl
      rotate_left
      · simp only [Act.put, List.setIfInBounds_toArray, List.set_cons_zero, List.set_cons_succ, i64_w, i32_w]
        rfl
      refine take_ (i := 0) (N := some 21) (v := ?_) (a' := ?_) #[true, false, true, true, false, false, false, false, true, true, false, false, false, false, false, false, false, false, false, false, false, false, false, false, false, false, false, false, false, false] rfl rfl (by kernel_rfl) (fun _ _ _ h => h) (Or.inl ⟨by rfl, ?_⟩) hHeld ?_ ?_
      rotate_left
      · rintro w' ⟨s0, s1, s2, s3, s4, s5, s6⟩
        go_simp
        with_reducible rfl
      rotate_left
      · simp only [Act.put, List.setIfInBounds_toArray, List.set_cons_zero, List.set_cons_succ, i64_w, i32_w]
        rfl
      refine take_ (i := 1) (N := some 22) (v := ?_) (a' := ?_) #[true, true, true, true, false, false, false, false, true, true, false, false, false, false, false, false, false, false, false, false, false, false, false, false, false, false, false, false, false, false] rfl rfl (by kernel_rfl) (fun _ _ _ h => h) (Or.inl ⟨by rfl, ?_⟩) hHeld ?_ ?_
      rotate_left
      · rintro w' ⟨s0, s1, s2, s3, s4, s5, s6⟩
        go_simp
        with_reducible rfl
      rotate_left
      · simp only [Act.put, List.setIfInBounds_toArray, List.set_cons_zero, List.set_cons_succ, i64_w, i32_w]
        rfl
      refine take_ (i := 4) (N := some 25) (v := ?_) (a' := ?_) #[true, true, true, true, true, false, false, false, true, true, false, false, false, false, false, false, false, false, false, false, false, false, false, false, false, false, false, false, false, false] rfl rfl (by kernel_rfl) (fun _ _ _ h => h) (Or.inl ⟨by rfl, ?_⟩) hHeld ?_ ?_
      rotate_left
      · rintro w' ⟨s0, s1, s2, s3, s4, s5, s6⟩
        go_simp
        with_reducible rfl
      rotate_left
      · simp only [Act.put, List.setIfInBounds_toArray, List.set_cons_zero, List.set_cons_succ, i64_w, i32_w]
        rfl
      refine take_ (i := 6) (N := some 27) (v := ?_) (a' := ?_) #[true, true, true, true, true, false, true, false, true, true, false, false, false, false, false, false, false, false, false, false, false, false, false, false, false, false, false, false, false, false] rfl rfl (by kernel_rfl) (fun _ _ _ h => h) (Or.inl ⟨by rfl, ?_⟩) hHeld ?_ ?_
      rotate_left
      · rintro w' ⟨s0, s1, s2, s3, s4, s5, s6⟩
        go_simp
        with_reducible rfl
      rotate_left
      · simp only [Act.put, List.setIfInBounds_toArray, List.set_cons_zero, List.set_cons_succ, i64_w, i32_w]
        rfl
      refine take_ (i := 7) (N := some 28) (v := ?_) (a' := ?_) #[true, true, true, true, true, false, true, true, true, true, false, false, false, false, false, false, false, false, false, false, false, false, false, false, false, false, false, false, false, false] rfl rfl (by kernel_rfl) (fun _ _ _ h => h) (Or.inl ⟨by rfl, ?_⟩) hHeld ?_ ?_
      rotate_left
      · rintro w' ⟨s0, s1, s2, s3, s4, s5, s6⟩
        go_simp
        with_reducible rfl
      rotate_left
      · simp only [Act.put, List.setIfInBounds_toArray, List.set_cons_zero, List.set_cons_succ, i64_w, i32_w]
        rfl
      refine take_ (i := 10) (N := some 31) (v := ?_) (a' := ?_) #[true, true, true, true, true, false, true, true, true, true, true, false, false, false, false, false, false, false, false, false, false, false, false, false, false, false, false, false, false, false] rfl rfl (by kernel_rfl) (fun _ _ _ h => h) (Or.inl ⟨by rfl, ?_⟩) hHeld ?_ ?_
      rotate_left
      · rintro w' ⟨s0, s1, s2, s3, s4, s5, s6⟩
        go_simp
        with_reducible rfl
      rotate_left
      · simp only [Act.put, List.setIfInBounds_toArray, List.set_cons_zero, List.set_cons_succ, i64_w, i32_w]
        rfl
      refine one_ (i := 5) (N := some 26) #[true, true, true, true, true, true, true, true, true, true, true, false, false, false, false, false, false, false, false, false, false, false, false, false, false, false, false, false, false, false] rfl rfl (by kernel_rfl) (by decide) (fun K hK => ?_)
      refine goes_ Try.func12 (by kernel_rfl) rfl _ (by rfl) rfl rfl (by simp only [List.map_toArray, List.map_cons, List.map_nil]; rfl) ?_
      refine (mix_calls ax ay aa bx by_ ba tk _).mono ?_
      rintro e w8 ⟨x1, y1, z1, hx1, hy1, hz1, rfl, hb1⟩
      refine ⟨_, rfl, ?_⟩
      have Xg3 := blk_below (blk_drew Xg3) hb1
      have Xg4 := blk_below (blk_drew Xg4) hb1
      have Xg7 := blk_below (blk_drew Xg7) hb1
      have hB := below_step (below_drew1 hB) hb1
      refine hK.out _ _ ⟨pw_cell_below hb1 (hHeld.1), pw_cell_below hb1 (hHeld.2.1), pw_cell_below hb1 (hHeld.2.2.1), pw_cell_below hb1 (hHeld.2.2.2.1), pw_cell_below hb1 (hHeld.2.2.2.2.1), pw_cell_below hb1 (hHeld.2.2.2.2.2.1), pw_cell_below hb1 (hHeld.2.2.2.2.2.2)⟩ (fun hHeld => ?_)
      clear hK K
      refine norm_ (a' := ?_) ?_ ?_
      rotate_left
      · show Act.put _ (some 26) _ = _
        simp only [Act.put, List.setIfInBounds_toArray, List.set_cons_zero, List.set_cons_succ, i64_w, i32_w]
        rfl
      refine one_ (i := 11) (N := some 32) #[true, true, true, true, true, true, true, true, true, true, true, true, false, false, false, false, false, false, false, false, false, false, false, false, false, false, false, false, false, false] rfl rfl (by kernel_rfl) (by decide) (fun K hK => ?_)
      refine goes_ Try.func13 (by kernel_rfl) rfl _ (by rfl) rfl rfl (by simp only [List.map_toArray, List.map_cons, List.map_nil]; rfl) ?_
      refine (refmix_calls ax ay aa bx by_ ba tk _).mono ?_
      rintro e w8 ⟨x2, y2, z2, hx2, hy2, hz2, rfl, hb2⟩
      refine ⟨_, rfl, ?_⟩
      have Xg3 := blk_below Xg3 hb2
      have Xg4 := blk_below Xg4 hb2
      have Xg7 := blk_below Xg7 hb2
      have hB := below_step hB hb2
      refine hK.out _ _ ⟨pw_cell_below hb2 (hHeld.1), pw_cell_below hb2 (hHeld.2.1), pw_cell_below hb2 (hHeld.2.2.1), pw_cell_below hb2 (hHeld.2.2.2.1), pw_cell_below hb2 (hHeld.2.2.2.2.1), pw_cell_below hb2 (hHeld.2.2.2.2.2.1), pw_cell_below hb2 (hHeld.2.2.2.2.2.2)⟩ (fun hHeld => ?_)
      clear hK K
      refine norm_ (a' := ?_) ?_ ?_
      rotate_left
      · show Act.put _ (some 32) _ = _
        simp only [Act.put, List.setIfInBounds_toArray, List.set_cons_zero, List.set_cons_succ, i64_w, i32_w]
        rfl
      refine one_ (i := 12) (N := some 33) #[true, true, true, true, true, true, true, true, true, true, true, true, true, false, false, false, false, false, false, false, false, false, false, false, false, false, false, false, false, false] rfl rfl (by kernel_rfl) (by decide) (fun K hK => ?_)
      refine goes_ Try.func11 (by kernel_rfl) rfl _ (by rfl) rfl rfl (by simp only [List.map_toArray, List.map_cons, List.map_nil]; rfl) ?_
      refine (one_calls x1 y1 z1 x2 y2 z2 (hx1.trans hx2.symm) (hy1.trans hy2.symm) (hz1.trans hz2.symm) _).mono ?_
      rintro e w8 ⟨rfl, hb3⟩
      refine ⟨_, rfl, ?_⟩
      have Xg3 := blk_below Xg3 hb3
      have Xg4 := blk_below Xg4 hb3
      have Xg7 := blk_below Xg7 hb3
      have hB := below_step hB hb3
      refine hK.out _ _ ⟨pw_cell_below hb3 (hHeld.1), pw_cell_below hb3 (hHeld.2.1), pw_cell_below hb3 (hHeld.2.2.1), pw_cell_below hb3 (hHeld.2.2.2.1), pw_cell_below hb3 (hHeld.2.2.2.2.1), pw_cell_below hb3 (hHeld.2.2.2.2.2.1), pw_cell_below hb3 (hHeld.2.2.2.2.2.2)⟩ (fun hHeld => ?_)
      clear hK K
      refine norm_ (a' := ?_) ?_ ?_
      rotate_left
      · show Act.put _ (some 33) _ = _
        simp only [Act.put, List.setIfInBounds_toArray, List.set_cons_zero, List.set_cons_succ, i64_w, i32_w]
        rfl
      refine pure_ (i := 13) (N := some 34) (v := ?_) (a' := ?_) #[true, true, true, true, true, true, true, true, true, true, true, true, true, true, false, false, false, false, false, false, false, false, false, false, false, false, false, false, false, false] rfl rfl (by kernel_rfl) (fun _ _ _ h => h) (Or.inl ⟨by rfl, ?_⟩) ?_ ?_
      rotate_left
      · intro w'
        go_simp
        with_reducible rfl
      rotate_left
      · simp only [Act.put, List.setIfInBounds_toArray, List.set_cons_zero, List.set_cons_succ, i64_w, i32_w]
        rfl
      refine pure_ (i := 14) (N := some 35) (v := ?_) (a' := ?_) #[true, true, true, true, true, true, true, true, true, true, true, true, true, true, true, false, false, false, false, false, false, false, false, false, false, false, false, false, false, false] rfl rfl (by kernel_rfl) (fun _ _ _ h => h) (Or.inl ⟨by rfl, ?_⟩) ?_ ?_
      rotate_left
      · intro w'
        go_simp
        with_reducible rfl
      rotate_left
      · simp only [Act.put, List.setIfInBounds_toArray, List.set_cons_zero, List.set_cons_succ, i64_w, i32_w]
        rfl
      refine pure_ (i := 17) (N := some 38) (v := ?_) (a' := ?_) #[true, true, true, true, true, true, true, true, true, true, true, true, true, true, true, false, false, true, false, false, false, false, false, false, false, false, false, false, false, false] rfl rfl (by kernel_rfl) (fun _ _ _ h => h) (Or.inl ⟨by rfl, ?_⟩) ?_ ?_
      rotate_left
      · intro w'
        go_simp
        with_reducible rfl
      rotate_left
      · simp only [Act.put, List.setIfInBounds_toArray, List.set_cons_zero, List.set_cons_succ, i64_w, i32_w]
        rfl
      refine pure_ (i := 18) (N := some 39) (v := ?_) (a' := ?_) #[true, true, true, true, true, true, true, true, true, true, true, true, true, true, true, false, false, true, true, false, false, false, false, false, false, false, false, false, false, false] rfl rfl (by kernel_rfl) (fun _ _ _ h => h) (Or.inl ⟨by rfl, ?_⟩) ?_ ?_
      rotate_left
      · intro w'
        go_simp
        with_reducible rfl
      rotate_left
      · simp only [Act.put, List.setIfInBounds_toArray, List.set_cons_zero, List.set_cons_succ, i64_w, i32_w]
        rfl
      refine pure_ (i := 23) (N := some 44) (v := ?_) (a' := ?_) #[true, true, true, true, true, true, true, true, true, true, true, true, true, true, true, false, false, true, true, false, false, false, false, true, false, false, false, false, false, false] rfl rfl (by kernel_rfl) (fun _ _ _ h => h) (Or.inl ⟨by rfl, ?_⟩) ?_ ?_
      rotate_left
      · intro w'
        go_simp
        with_reducible rfl
      rotate_left
      · simp only [Act.put, List.setIfInBounds_toArray, List.set_cons_zero, List.set_cons_succ, i64_w, i32_w]
        rfl
      refine pure_ (i := 24) (N := some 45) (v := ?_) (a' := ?_) #[true, true, true, true, true, true, true, true, true, true, true, true, true, true, true, false, false, true, true, false, false, false, false, true, true, false, false, false, false, false] rfl rfl (by kernel_rfl) (fun _ _ _ h => h) (Or.inl ⟨by rfl, ?_⟩) ?_ ?_
      rotate_left
      · intro w'
        go_simp
        with_reducible rfl
      rotate_left
      · simp only [Act.put, List.setIfInBounds_toArray, List.set_cons_zero, List.set_cons_succ, i64_w, i32_w]
        rfl
      refine take_ (i := 15) (N := some 36) (v := ?_) (a' := ?_) #[true, true, true, true, true, true, true, true, true, true, true, true, true, true, true, true, false, true, true, false, false, false, false, true, true, false, false, false, false, false] rfl rfl (by kernel_rfl) (fun _ _ _ h => h) (Or.inl ⟨by rfl, ?_⟩) hHeld ?_ ?_
      rotate_left
      · rintro w' ⟨s0, s1, s2, s3, s4, s5, s6⟩
        go_simp
        with_reducible rfl
      rotate_left
      · simp only [Act.put, List.setIfInBounds_toArray, List.set_cons_zero, List.set_cons_succ, i64_w, i32_w]
        rfl
      refine take_ (i := 16) (N := some 37) (v := ?_) (a' := ?_) #[true, true, true, true, true, true, true, true, true, true, true, true, true, true, true, true, true, true, true, false, false, false, false, true, true, false, false, false, false, false] rfl rfl (by kernel_rfl) (fun _ _ _ h => h) (Or.inl ⟨by rfl, ?_⟩) hHeld ?_ ?_
      rotate_left
      · rintro w' ⟨s0, s1, s2, s3, s4, s5, s6⟩
        go_simp
        with_reducible rfl
      rotate_left
      · simp only [Act.put, List.setIfInBounds_toArray, List.set_cons_zero, List.set_cons_succ, i64_w, i32_w]
        rfl
      refine take_ (i := 19) (N := some 40) (v := ?_) (a' := ?_) #[true, true, true, true, true, true, true, true, true, true, true, true, true, true, true, true, true, true, true, true, false, false, false, true, true, false, false, false, false, false] rfl rfl (by kernel_rfl) (fun _ _ _ h => h) (Or.inl ⟨by rfl, ?_⟩) hHeld ?_ ?_
      rotate_left
      · rintro w' ⟨s0, s1, s2, s3, s4, s5, s6⟩
        go_simp
        with_reducible rfl
      rotate_left
      · simp only [Act.put, List.setIfInBounds_toArray, List.set_cons_zero, List.set_cons_succ, i64_w, i32_w]
        rfl
      refine take_ (i := 21) (N := some 42) (v := ?_) (a' := ?_) #[true, true, true, true, true, true, true, true, true, true, true, true, true, true, true, true, true, true, true, true, false, true, false, true, true, false, false, false, false, false] rfl rfl (by kernel_rfl) (fun _ _ _ h => h) (Or.inl ⟨by rfl, ?_⟩) hHeld ?_ ?_
      rotate_left
      · rintro w' ⟨s0, s1, s2, s3, s4, s5, s6⟩
        go_simp
        with_reducible rfl
      rotate_left
      · simp only [Act.put, List.setIfInBounds_toArray, List.set_cons_zero, List.set_cons_succ, i64_w, i32_w]
        rfl
      refine take_ (i := 22) (N := some 43) (v := ?_) (a' := ?_) #[true, true, true, true, true, true, true, true, true, true, true, true, true, true, true, true, true, true, true, true, false, true, true, true, true, false, false, false, false, false] rfl rfl (by kernel_rfl) (fun _ _ _ h => h) (Or.inl ⟨by rfl, ?_⟩) hHeld ?_ ?_
      rotate_left
      · rintro w' ⟨s0, s1, s2, s3, s4, s5, s6⟩
        go_simp
        with_reducible rfl
      rotate_left
      · simp only [Act.put, List.setIfInBounds_toArray, List.set_cons_zero, List.set_cons_succ, i64_w, i32_w]
        rfl
      refine take_ (i := 25) (N := some 46) (v := ?_) (a' := ?_) #[true, true, true, true, true, true, true, true, true, true, true, true, true, true, true, true, true, true, true, true, false, true, true, true, true, true, false, false, false, false] rfl rfl (by kernel_rfl) (fun _ _ _ h => h) (Or.inl ⟨by rfl, ?_⟩) hHeld ?_ ?_
      rotate_left
      · rintro w' ⟨s0, s1, s2, s3, s4, s5, s6⟩
        go_simp
        with_reducible rfl
      rotate_left
      · simp only [Act.put, List.setIfInBounds_toArray, List.set_cons_zero, List.set_cons_succ, i64_w, i32_w]
        rfl
      refine one_ (i := 20) (N := some 41) #[true, true, true, true, true, true, true, true, true, true, true, true, true, true, true, true, true, true, true, true, true, true, true, true, true, true, false, false, false, false] rfl rfl (by kernel_rfl) (by decide) (fun K hK => ?_)
      refine goes_ Try.func12 (by kernel_rfl) rfl _ (by rfl) rfl rfl (by simp only [List.map_toArray, List.map_cons, List.map_nil]; rfl) ?_
      refine (mix_calls bx by_ ba ax ay aa tk _).mono ?_
      rintro e w8 ⟨x4, y4, z4, hx4, hy4, hz4, rfl, hb4⟩
      refine ⟨_, rfl, ?_⟩
      have Xg3 := blk_below Xg3 hb4
      have Xg4 := blk_below Xg4 hb4
      have Xg7 := blk_below Xg7 hb4
      have hB := below_step hB hb4
      refine hK.out _ _ ⟨pw_cell_below hb4 (hHeld.1), pw_cell_below hb4 (hHeld.2.1), pw_cell_below hb4 (hHeld.2.2.1), pw_cell_below hb4 (hHeld.2.2.2.1), pw_cell_below hb4 (hHeld.2.2.2.2.1), pw_cell_below hb4 (hHeld.2.2.2.2.2.1), pw_cell_below hb4 (hHeld.2.2.2.2.2.2)⟩ (fun hHeld => ?_)
      clear hK K
      refine norm_ (a' := ?_) ?_ ?_
      rotate_left
      · show Act.put _ (some 41) _ = _
        simp only [Act.put, List.setIfInBounds_toArray, List.set_cons_zero, List.set_cons_succ, i64_w, i32_w]
        rfl
      refine one_ (i := 26) (N := some 47) #[true, true, true, true, true, true, true, true, true, true, true, true, true, true, true, true, true, true, true, true, true, true, true, true, true, true, true, false, false, false] rfl rfl (by kernel_rfl) (by decide) (fun K hK => ?_)
      refine goes_ Try.func13 (by kernel_rfl) rfl _ (by rfl) rfl rfl (by simp only [List.map_toArray, List.map_cons, List.map_nil]; rfl) ?_
      refine (refmix_calls bx by_ ba ax ay aa tk _).mono ?_
      rintro e w8 ⟨x5, y5, z5, hx5, hy5, hz5, rfl, hb5⟩
      refine ⟨_, rfl, ?_⟩
      have Xg3 := blk_below Xg3 hb5
      have Xg4 := blk_below Xg4 hb5
      have Xg7 := blk_below Xg7 hb5
      have hB := below_step hB hb5
      refine hK.out _ _ ⟨pw_cell_below hb5 (hHeld.1), pw_cell_below hb5 (hHeld.2.1), pw_cell_below hb5 (hHeld.2.2.1), pw_cell_below hb5 (hHeld.2.2.2.1), pw_cell_below hb5 (hHeld.2.2.2.2.1), pw_cell_below hb5 (hHeld.2.2.2.2.2.1), pw_cell_below hb5 (hHeld.2.2.2.2.2.2)⟩ (fun hHeld => ?_)
      clear hK K
      refine norm_ (a' := ?_) ?_ ?_
      rotate_left
      · show Act.put _ (some 47) _ = _
        simp only [Act.put, List.setIfInBounds_toArray, List.set_cons_zero, List.set_cons_succ, i64_w, i32_w]
        rfl
      refine one_ (i := 27) (N := some 48) #[true, true, true, true, true, true, true, true, true, true, true, true, true, true, true, true, true, true, true, true, true, true, true, true, true, true, true, true, false, false] rfl rfl (by kernel_rfl) (by decide) (fun K hK => ?_)
      refine goes_ Try.func11 (by kernel_rfl) rfl _ (by rfl) rfl rfl (by simp only [List.map_toArray, List.map_cons, List.map_nil]; rfl) ?_
      refine (one_calls x4 y4 z4 x5 y5 z5 (hx4.trans hx5.symm) (hy4.trans hy5.symm) (hz4.trans hz5.symm) _).mono ?_
      rintro e w8 ⟨rfl, hb6⟩
      refine ⟨_, rfl, ?_⟩
      have Xg3 := blk_below Xg3 hb6
      have Xg4 := blk_below Xg4 hb6
      have Xg7 := blk_below Xg7 hb6
      have hB := below_step hB hb6
      refine hK.out _ _ ⟨pw_cell_below hb6 (hHeld.1), pw_cell_below hb6 (hHeld.2.1), pw_cell_below hb6 (hHeld.2.2.1), pw_cell_below hb6 (hHeld.2.2.2.1), pw_cell_below hb6 (hHeld.2.2.2.2.1), pw_cell_below hb6 (hHeld.2.2.2.2.2.1), pw_cell_below hb6 (hHeld.2.2.2.2.2.2)⟩ (fun hHeld => ?_)
      clear hK K
      refine norm_ (a' := ?_) ?_ ?_
      rotate_left
      · show Act.put _ (some 48) _ = _
        simp only [Act.put, List.setIfInBounds_toArray, List.set_cons_zero, List.set_cons_succ, i64_w, i32_w]
        rfl
      refine pure_ (i := 28) (N := some 49) (v := ?_) (a' := ?_) #[true, true, true, true, true, true, true, true, true, true, true, true, true, true, true, true, true, true, true, true, true, true, true, true, true, true, true, true, true, false] rfl rfl (by kernel_rfl) (fun _ _ _ h => h) (Or.inl ⟨by rfl, ?_⟩) ?_ ?_
      rotate_left
      · intro w'
        go_simp
        with_reducible rfl
      rotate_left
      · simp only [Act.put, List.setIfInBounds_toArray, List.set_cons_zero, List.set_cons_succ, i64_w, i32_w]
        rfl
      refine pure_ (i := 29) (N := some 50) (v := ?_) (a' := ?_) #[true, true, true, true, true, true, true, true, true, true, true, true, true, true, true, true, true, true, true, true, true, true, true, true, true, true, true, true, true, true] rfl rfl (by kernel_rfl) (fun _ _ _ h => h) (Or.inl ⟨by rfl, ?_⟩) ?_ ?_
      rotate_left
      · intro w'
        go_simp
        with_reducible rfl
      rotate_left
      · simp only [Act.put, List.setIfInBounds_toArray, List.set_cons_zero, List.set_cons_succ, i64_w, i32_w]
        rfl
      refine done_ (by kernel_rfl) ?_

      go_wp2
      go_roundw
      case rel => exact ⟨k + 1, t1, t2, t3, by omega, by go_num, ⟨Xg3⟩, ⟨Xg4⟩, ⟨Xg7⟩, ⟨hB⟩⟩
      case measure => simp [intOf]; omega
    · have hke : k = 3 := by omega
      subst hke
      go_wp2_with (first
      | ((try (refine gate_guard (by rfl) ?_; dsimp only)); refine wpList_fl _ rfl _ _ _ _ _ rfl (by decide) _ _ _ _ rfl rfl (by first | assumption | exact Fe.refl _) (by first | assumption | exact Fe.refl _) ?_; intro z nd hz)
      | ((try (refine gate_guard (by rfl) ?_; dsimp only)); refine wpList_flc _ rfl _ _ _ _ _ rfl (by decide) _ _ _ _ rfl rfl (by first | assumption | exact Fe.refl _) (by first | assumption | exact Fe.refl _) ?_)
      | (go_at_call 10; refine (alive_calls _).mono ?_; rintro e w5 ⟨rfl, hb⟩; have Xg3 := blk_below Xg3 hb; have Xg4 := blk_below Xg4 hb; have hB := below_step hB hb; clear hb; have cg3_0 : w5.cell? ⟨g3, 0, none⟩ = some (.float .f32 ax) := (blk_cell Xg3 0).trans rfl; have cg3_1 : w5.cell? ⟨g3, 1, none⟩ = some (.float .f32 ay) := (blk_cell Xg3 1).trans rfl; have cg3_2 : w5.cell? ⟨g3, 2, none⟩ = some (.float .f32 aa) := (blk_cell Xg3 2).trans rfl; have fg3_0 := blk_frozen Xg3 0; have fg3_1 := blk_frozen Xg3 1; have fg3_2 := blk_frozen Xg3 2; have cg4_0 : w5.cell? ⟨g4, 0, none⟩ = some (.float .f32 bx) := (blk_cell Xg4 0).trans rfl; have cg4_1 : w5.cell? ⟨g4, 1, none⟩ = some (.float .f32 by_) := (blk_cell Xg4 1).trans rfl; have cg4_2 : w5.cell? ⟨g4, 2, none⟩ = some (.float .f32 ba) := (blk_cell Xg4 2).trans rfl; have fg4_0 := blk_frozen Xg4 0; have fg4_1 := blk_frozen Xg4 1; have fg4_2 := blk_frozen Xg4 2))
      go_ret
      exact ⟨rfl, hB⟩
theorem mixes.calls (ax ay aa bx by_ ba t : Nat) (w : World) : Calls Try.prog 3 #[.agg #[.float .f32 ax, .float .f32 ay, .float .f32 aa], .agg #[.float .f32 bx, .float .f32 by_, .float .f32 ba], .float .f32 t] w fun e w' => e = .returned (.bool true) ∧ Below w.heap.size w w' := mixes_any ax ay aa bx by_ ba t w
end Go.Proofs.Ytjffkidfoapbjaa.Fl
