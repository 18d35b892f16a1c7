/- Proved: what the document answers for Between, of any two views. -/
import Derived.Test.YtjffkidfoapbjaaBetw
import Derived.Test.YtjffkidfoapbjaaRefMix
import Derived.Test.YtjffkidfoapbjaaRefOf
namespace Go.Proofs.Ytjffkidfoapbjaa.Fl
open Go.RowKit Go.Proofs.YtjffkidfoapbjaaW.PrintWords Go.Proofs.YtjffkidfoapbjaaW.PrintLast Go.Proofs.YtjffkidfoapbjaaW.PrintMore
set_option linter.unusedVariables false
set_option linter.unusedSimpArgs false
attribute [local go_sem] run_store_float
/-- Each heading is an int. -/
structure Hds (l : List S5) : Prop where
  lo : ∀ k, k < l.length → -9223372036854775808 ≤ (l.getD k default).hd
  hi : ∀ k, k < l.length → (l.getD k default).hd ≤ 9223372036854775807
set_option maxHeartbeats 8000000 in
set_option maxRecDepth 100000 in
theorem refbetween_calls_0 (atk apl au av avx avy ahd ahe aen aam aco awt asp asc : Int) (anm : ByteArray) (aA : Option Addr) (an ac : Nat) (btk bpl bu bv bvx bvy bhd bhe ben bam bco bwt bsp bsc : Int) (bnm : ByteArray) (bA : Option Addr) (bn bc : Nat) (t : Nat) (w : World) (ss rs : List S5) (hS : SRow w aA an ss) (hR : SRow w bA bn rs) (hn : an * 12 + 12 ≤ 140737488355328) (hm : bn ≤ 9223372036854775807) (kA0 : -9223372036854775808 ≤ ahd) (kA1 : ahd ≤ 9223372036854775807) (kB0 : -9223372036854775808 ≤ bhd) (kB1 : bhd ≤ 9223372036854775807) (hSH : Hds ss) (hRH : Hds rs) (h1 : apl = bpl) (h2 : awt ≤ 0) (h3 : bwt ≤ 0) : Calls Try.prog 27 #[.agg #[.int .u64 atk, .int .i64 apl, .string anm, .int .i64 au, .int .i64 av, .int .i64 avx, .int .i64 avy, .int .i64 ahd, .int .i64 ahe, .int .i64 aen, .int .i64 aam, .int .i64 aco, .int .i64 awt, .int .i64 asp, .int .i64 asc, .slice aA an ac], .agg #[.int .u64 btk, .int .i64 bpl, .string bnm, .int .i64 bu, .int .i64 bv, .int .i64 bvx, .int .i64 bvy, .int .i64 bhd, .int .i64 bhe, .int .i64 ben, .int .i64 bam, .int .i64 bco, .int .i64 bwt, .int .i64 bsp, .int .i64 bsc, .slice bA bn bc], .float .f32 t] w fun e w' => ∃ A c ps, e = .returned (.slice A ps.length c) ∧ OwnP w' w.heap.size (.slice A ps.length c) ps ∧ PFs ps (ownB apl bpl awt bwt (ofP au av ahd) (ofP bu bv bhd) t ++ seenB ss rs t) ∧ Below w.heap.size w w' := by
  have hu47 := Try.underlying47
  have hu40 := Try.underlying40
  have hu38 := Try.underlying38
  have hu55 := Try.underlying55
  have hu45 := Try.underlying45
  have hu51 := Try.underlying51
  have hu24 := Try.underlying24
  have hu3 := Try.underlying3
  have hnn : (an : Int) ≤ 9223372036854775807 := by omega
  have hmm : (bn : Int) ≤ 9223372036854775807 := by omega
  have e1 : (apl == bpl) = true := beq_iff_eq.2 h1
  have d2 : decide (awt ≤ 0) = true := decide_eq_true h2
  have d3 : decide (bwt ≤ 0) = true := decide_eq_true h3
  have HO := Aside0.mk (show ownB apl bpl awt bwt (ofP au av ahd) (ofP bu bv bhd) t = [mixP (ofP au av ahd) (ofP bu bv bhd) t] from if_pos ⟨h1, h2, h3⟩)
  clear h1
  go_enter Try.func27, Try.ntmps27
  go_wp2_with (first
        | ((try (refine gate_guard (by rfl) ?_; dsimp only)); refine wpList_fl _ rfl _ _ _ _ _ rfl (by decide) _ _ _ _ rfl rfl (by first | assumption | exact Fe.refl _) (by first | assumption | exact Fe.refl _) ?_; intro z nd hz)
        | ((try (refine gate_guard (by rfl) ?_; dsimp only)); refine wpList_flc _ rfl _ _ _ _ _ rfl (by decide) _ _ _ _ rfl rfl (by first | assumption | exact Fe.refl _) (by first | assumption | exact Fe.refl _) ?_)
        | ((with_reducible refine gate_dst (N := 3) rfl ?_); refine box_event ?hg (N := 3) ?hd (cs := #[.int .u64 atk, .int .i64 apl, .string anm, .int .i64 au, .int .i64 av, .int .i64 avx, .int .i64 avy, .int .i64 ahd, .int .i64 ahe, .int .i64 aen, .int .i64 aam, .int .i64 aco, .int .i64 awt, .int .i64 asp, .int .i64 asc, .slice aA an ac]) (t := 47) ?hr ?_; (case hd => rfl); (case hg => rfl); (case hr => first | (go_simp; done) | (go_simp; rfl)); intro g3 eg3 w1 Xg3 Bg3; clear eg3)
        | ((with_reducible refine gate_dst (N := 4) rfl ?_); refine box_event ?hg (N := 4) ?hd (cs := #[.int .u64 btk, .int .i64 bpl, .string bnm, .int .i64 bu, .int .i64 bv, .int .i64 bvx, .int .i64 bvy, .int .i64 bhd, .int .i64 bhe, .int .i64 ben, .int .i64 bam, .int .i64 bco, .int .i64 bwt, .int .i64 bsp, .int .i64 bsc, .slice bA bn bc]) (t := 47) ?hr ?_; (case hd => rfl); (case hg => rfl); (case hr => first | (go_simp; done) | (go_simp; rfl)); intro g4 eg4 w2 Xg4 Bg4; have Xg3 := blk_below Xg3 Bg4; have hB0 := below_step Bg3 Bg4; have hS2 := (hS.below Bg3).below Bg4; have hR2 := (hR.below Bg3).below Bg4; have hB := Below.refl w2.heap.size w2; have lg3 := blk_lt Xg3; have lg4 := blk_lt Xg4; clear eg4 Bg3 Bg4 hS hR; have cg3_1 : w2.cell? ⟨g3, 1, none⟩ = some (.int .i64 apl) := (blk_cell Xg3 1).trans rfl; have cg3_3 : w2.cell? ⟨g3, 3, none⟩ = some (.int .i64 au) := (blk_cell Xg3 3).trans rfl; have cg3_4 : w2.cell? ⟨g3, 4, none⟩ = some (.int .i64 av) := (blk_cell Xg3 4).trans rfl; have cg3_7 : w2.cell? ⟨g3, 7, none⟩ = some (.int .i64 ahd) := (blk_cell Xg3 7).trans rfl; have cg3_12 : w2.cell? ⟨g3, 12, none⟩ = some (.int .i64 awt) := (blk_cell Xg3 12).trans rfl; have cg3_15 : w2.cell? ⟨g3, 15, none⟩ = some (.slice aA an ac) := (blk_cell Xg3 15).trans rfl; have cg4_1 : w2.cell? ⟨g4, 1, none⟩ = some (.int .i64 bpl) := (blk_cell Xg4 1).trans rfl; have cg4_3 : w2.cell? ⟨g4, 3, none⟩ = some (.int .i64 bu) := (blk_cell Xg4 3).trans rfl; have cg4_4 : w2.cell? ⟨g4, 4, none⟩ = some (.int .i64 bv) := (blk_cell Xg4 4).trans rfl; have cg4_7 : w2.cell? ⟨g4, 7, none⟩ = some (.int .i64 bhd) := (blk_cell Xg4 7).trans rfl; have cg4_12 : w2.cell? ⟨g4, 12, none⟩ = some (.int .i64 bwt) := (blk_cell Xg4 12).trans rfl; have cg4_15 : w2.cell? ⟨g4, 15, none⟩ = some (.slice bA bn bc) := (blk_cell Xg4 15).trans rfl))
  refine start_ (n := 20) (S := fun w' => w'.cell? ⟨g3, 3, none⟩ = some (.int .i64 au) ∧ w'.cell? ⟨g3, 4, none⟩ = some (.int .i64 av) ∧ w'.cell? ⟨g3, 7, none⟩ = some (.int .i64 ahd) ∧ w'.cell? ⟨g4, 3, none⟩ = some (.int .i64 bu) ∧ w'.cell? ⟨g4, 4, none⟩ = some (.int .i64 bv) ∧ w'.cell? ⟨g4, 7, none⟩ = some (.int .i64 bhd)) (ds := [18]) #[false, false, false, false, false, false, false, false, false, false, false, false, false, false, false, false, false, false, false, false] (by kernel_rfl) rfl rfl ⟨cg3_3, cg3_4, cg3_7, cg4_3, cg4_4, cg4_7⟩ (fun hHeld => ?_)
  refine pure_ (i := 0) (N := some 32) (v := ?_) (a' := ?_) #[true, false, false, false, false, false, false, false, false, false, false, false, false, false, false, false, false, false, false, false] rfl rfl (by kernel_rfl) (fun _ _ _ h => h) (Or.inl ⟨by rfl, ?_⟩) ?_ ?_
  rotate_left
  · intro w'
    go_simp
    with_reducible rfl
  rotate_left
  · simp only [Act.put, List.setIfInBounds_toArray, List.set_cons_zero, List.set_cons_succ, i64_w, i32_w]
    rfl
  refine pure_ (i := 1) (N := some 33) (v := ?_) (a' := ?_) #[true, true, false, false, false, false, false, false, false, false, false, false, false, false, false, false, false, false, false, false] rfl rfl (by kernel_rfl) (fun _ _ _ h => h) (Or.inl ⟨by rfl, ?_⟩) ?_ ?_
  rotate_left
  · intro w'
    go_simp
    with_reducible rfl
  rotate_left
  · simp only [Act.put, List.setIfInBounds_toArray, List.set_cons_zero, List.set_cons_succ, i64_w, i32_w]
    rfl
  refine pure_ (i := 2) (N := some 34) (v := ?_) (a' := ?_) #[true, true, true, false, false, false, false, false, false, false, false, false, false, false, false, false, false, false, false, false] rfl rfl (by kernel_rfl) (fun _ _ _ h => h) (Or.inl ⟨by rfl, ?_⟩) ?_ ?_
  rotate_left
  · intro w'
    go_simp
    with_reducible rfl
  rotate_left
  · simp only [Act.put, List.setIfInBounds_toArray, List.set_cons_zero, List.set_cons_succ, i64_w, i32_w]
    rfl
  refine pure_ (i := 4) (N := some 36) (v := ?_) (a' := ?_) #[true, true, true, false, true, false, false, false, false, false, false, false, false, false, false, false, false, false, false, false] rfl rfl (by kernel_rfl) (fun _ _ _ h => h) (Or.inl ⟨by rfl, ?_⟩) ?_ ?_
  rotate_left
  · intro w'
    go_simp
    with_reducible rfl
  rotate_left
  · simp only [Act.put, List.setIfInBounds_toArray, List.set_cons_zero, List.set_cons_succ, i64_w, i32_w]
    rfl
  refine pure_ (i := 5) (N := some 37) (v := ?_) (a' := ?_) #[true, true, true, false, true, true, false, false, false, false, false, false, false, false, false, false, false, false, false, false] rfl rfl (by kernel_rfl) (fun _ _ _ h => h) (Or.inl ⟨by rfl, ?_⟩) ?_ ?_
  rotate_left
  · intro w'
    go_simp
    with_reducible rfl
  rotate_left
  · simp only [Act.put, List.setIfInBounds_toArray, List.set_cons_zero, List.set_cons_succ, i64_w, i32_w]
    rfl
  refine pure_ (i := 8) (N := some 40) (v := ?_) (a' := ?_) #[true, true, true, false, true, true, false, false, true, false, false, false, false, false, false, false, false, false, false, false] rfl rfl (by kernel_rfl) (fun _ _ _ h => h) (Or.inl ⟨by rfl, ?_⟩) ?_ ?_
  rotate_left
  · intro w'
    go_simp
    with_reducible rfl
  rotate_left
  · simp only [Act.put, List.setIfInBounds_toArray, List.set_cons_zero, List.set_cons_succ, i64_w, i32_w]
    rfl
  refine pure_ (i := 9) (N := some 41) (v := ?_) (a' := ?_) #[true, true, true, false, true, true, false, false, true, true, false, false, false, false, false, false, false, false, false, false] rfl rfl (by kernel_rfl) (fun _ _ _ h => h) (Or.inl ⟨by rfl, ?_⟩) ?_ ?_
  rotate_left
  · intro w'
    go_simp
    with_reducible rfl
  rotate_left
  · simp only [Act.put, List.setIfInBounds_toArray, List.set_cons_zero, List.set_cons_succ, i64_w, i32_w]
    rfl
  refine pure_ (i := 11) (N := some 43) (v := ?_) (a' := ?_) #[true, true, true, false, true, true, false, false, true, true, false, true, false, false, false, false, false, false, false, false] rfl rfl (by kernel_rfl) (fun _ _ _ h => h) (Or.inl ⟨by rfl, ?_⟩) ?_ ?_
  rotate_left
  · intro w'
    go_simp
    with_reducible rfl
  rotate_left
  · simp only [Act.put, List.setIfInBounds_toArray, List.set_cons_zero, List.set_cons_succ, i64_w, i32_w]
    rfl
  refine pure_ (i := 12) (N := some 44) (v := ?_) (a' := ?_) #[true, true, true, false, true, true, false, false, true, true, false, true, true, false, false, false, false, false, false, false] rfl rfl (by kernel_rfl) (fun _ _ _ h => h) (Or.inl ⟨by rfl, ?_⟩) ?_ ?_
  rotate_left
  · intro w'
    go_simp
    with_reducible rfl
  rotate_left
  · simp only [Act.put, List.setIfInBounds_toArray, List.set_cons_zero, List.set_cons_succ, i64_w, i32_w]
    rfl
  refine pure_ (i := 15) (N := some 47) (v := ?_) (a' := ?_) #[true, true, true, false, true, true, false, false, true, true, false, true, true, false, false, true, false, false, false, false] rfl rfl (by kernel_rfl) (fun _ _ _ h => h) (Or.inl ⟨by rfl, ?_⟩) ?_ ?_
  rotate_left
  · intro w'
    go_simp
    with_reducible rfl
  rotate_left
  · simp only [Act.put, List.setIfInBounds_toArray, List.set_cons_zero, List.set_cons_succ, i64_w, i32_w]
    rfl
  refine take_ (i := 3) (N := some 35) (v := ?_) (a' := ?_) #[true, true, true, true, true, true, false, false, true, true, false, true, true, false, false, true, false, false, false, false] rfl rfl (by kernel_rfl) (fun _ _ _ h => h) (Or.inl ⟨by rfl, ?_⟩) hHeld ?_ ?_
  rotate_left
  · rintro w' ⟨s0, s1, s2, s3, s4, s5⟩
    go_simp
    with_reducible rfl
  rotate_left
  · simp only [Act.put, List.setIfInBounds_toArray, List.set_cons_zero, List.set_cons_succ, i64_w, i32_w]
    rfl
  refine take_ (i := 6) (N := some 38) (v := ?_) (a' := ?_) #[true, true, true, true, true, true, true, false, true, true, false, true, true, false, false, true, false, false, false, false] rfl rfl (by kernel_rfl) (fun _ _ _ h => h) (Or.inl ⟨by rfl, ?_⟩) hHeld ?_ ?_
  rotate_left
  · rintro w' ⟨s0, s1, s2, s3, s4, s5⟩
    go_simp
    with_reducible rfl
  rotate_left
  · simp only [Act.put, List.setIfInBounds_toArray, List.set_cons_zero, List.set_cons_succ, i64_w, i32_w]
    rfl
  refine take_ (i := 10) (N := some 42) (v := ?_) (a' := ?_) #[true, true, true, true, true, true, true, false, true, true, true, true, true, false, false, true, false, false, false, false] rfl rfl (by kernel_rfl) (fun _ _ _ h => h) (Or.inl ⟨by rfl, ?_⟩) hHeld ?_ ?_
  rotate_left
  · rintro w' ⟨s0, s1, s2, s3, s4, s5⟩
    go_simp
    with_reducible rfl
  rotate_left
  · simp only [Act.put, List.setIfInBounds_toArray, List.set_cons_zero, List.set_cons_succ, i64_w, i32_w]
    rfl
  refine take_ (i := 13) (N := some 45) (v := ?_) (a' := ?_) #[true, true, true, true, true, true, true, false, true, true, true, true, true, true, false, true, false, false, false, false] rfl rfl (by kernel_rfl) (fun _ _ _ h => h) (Or.inl ⟨by rfl, ?_⟩) hHeld ?_ ?_
  rotate_left
  · rintro w' ⟨s0, s1, s2, s3, s4, s5⟩
    go_simp
    with_reducible rfl
  rotate_left
  · simp only [Act.put, List.setIfInBounds_toArray, List.set_cons_zero, List.set_cons_succ, i64_w, i32_w]
    rfl
  refine one_ (i := 7) (N := some 39) #[true, true, true, true, true, true, true, true, true, true, true, true, true, true, false, true, false, false, false, false] rfl rfl (by kernel_rfl) (by decide) (fun K hK => ?_)
  refine goes_ Try.func21 (by kernel_rfl) rfl _ (by rfl) rfl rfl (by simp only [List.map_toArray, List.map_cons, List.map_nil]; rfl) ?_
  refine (refof_calls au av ahd (by first | exact kA0 | exact kB0 | exact ks0 | exact kr0) (by first | exact kA1 | exact kB1 | exact ks1 | exact kr1) _).mono ?_
  rintro e w8 ⟨p1, q1, r1, hp1, hq1, hr1, rfl, hb1⟩
  refine ⟨_, rfl, ?_⟩
  have hB := below_step (below_drew1 hB) hb1
  refine hK.out _ _ ⟨pw_cell_below hb1 (hHeld.1), pw_cell_below hb1 (hHeld.2.1), pw_cell_below hb1 (hHeld.2.2.1), pw_cell_below hb1 (hHeld.2.2.2.1), pw_cell_below hb1 (hHeld.2.2.2.2.1), pw_cell_below hb1 (hHeld.2.2.2.2.2)⟩ (fun hHeld => ?_)
  clear hK K
  refine norm_ (a' := ?_) ?_ ?_
  rotate_left
  · show Act.put _ (some 39) _ = _
    simp only [Act.put, List.setIfInBounds_toArray, List.set_cons_zero, List.set_cons_succ, i64_w, i32_w]
    rfl
  refine one_ (i := 14) (N := some 46) #[true, true, true, true, true, true, true, true, true, true, true, true, true, true, true, true, false, false, false, false] rfl rfl (by kernel_rfl) (by decide) (fun K hK => ?_)
  refine goes_ Try.func21 (by kernel_rfl) rfl _ (by rfl) rfl rfl (by simp only [List.map_toArray, List.map_cons, List.map_nil]; rfl) ?_
  refine (refof_calls bu bv bhd (by first | exact kA0 | exact kB0 | exact ks0 | exact kr0) (by first | exact kA1 | exact kB1 | exact ks1 | exact kr1) _).mono ?_
  rintro e w8 ⟨p2, q2, r2, hp2, hq2, hr2, rfl, hb2⟩
  refine ⟨_, rfl, ?_⟩
  have hB := below_step hB hb2
  refine hK.out _ _ ⟨pw_cell_below hb2 (hHeld.1), pw_cell_below hb2 (hHeld.2.1), pw_cell_below hb2 (hHeld.2.2.1), pw_cell_below hb2 (hHeld.2.2.2.1), pw_cell_below hb2 (hHeld.2.2.2.2.1), pw_cell_below hb2 (hHeld.2.2.2.2.2)⟩ (fun hHeld => ?_)
  clear hK K
  refine norm_ (a' := ?_) ?_ ?_
  rotate_left
  · show Act.put _ (some 46) _ = _
    simp only [Act.put, List.setIfInBounds_toArray, List.set_cons_zero, List.set_cons_succ, i64_w, i32_w]
    rfl
  refine one_ (i := 16) (N := some 48) #[true, true, true, true, true, true, true, true, true, true, true, true, true, true, true, true, true, false, false, false] rfl rfl (by kernel_rfl) (by decide) (fun K hK => ?_)
  refine goes_ Try.func13 (by kernel_rfl) rfl _ (by rfl) rfl rfl (by simp only [List.map_toArray, List.map_cons, List.map_nil]; rfl) ?_
  refine (refmix_calls p1 q1 r1 p2 q2 r2 t _).mono ?_
  rintro e w8 ⟨x3, y3, z3, hx3, hy3, hz3, rfl, hb3⟩
  refine ⟨_, rfl, ?_⟩
  have hB := below_step hB hb3
  refine hK.out _ _ ⟨pw_cell_below hb3 (hHeld.1), pw_cell_below hb3 (hHeld.2.1), pw_cell_below hb3 (hHeld.2.2.1), pw_cell_below hb3 (hHeld.2.2.2.1), pw_cell_below hb3 (hHeld.2.2.2.2.1), pw_cell_below hb3 (hHeld.2.2.2.2.2)⟩ (fun hHeld => ?_)
  clear hK K
  refine norm_ (a' := ?_) ?_ ?_
  rotate_left
  · show Act.put _ (some 48) _ = _
    simp only [Act.put, List.setIfInBounds_toArray, List.set_cons_zero, List.set_cons_succ, i64_w, i32_w]
    rfl
  refine one_ (i := 17) (N := some 49) #[true, true, true, true, true, true, true, true, true, true, true, true, true, true, true, true, true, true, false, false] rfl rfl (by kernel_rfl) (by decide) (fun K hK => ?_)
  refine value_ (w1 := ?_) (v := ?_) (by rfl) rfl ?_ ?_
  rotate_left 2
  · go_simp
    constructor
    · rfl
    · rfl
  refine hK.out _ _ ⟨pw_cell_below (below_alloc (Below.refl _ _) _) (hHeld.1), pw_cell_below (below_alloc (Below.refl _ _) _) (hHeld.2.1), pw_cell_below (below_alloc (Below.refl _ _) _) (hHeld.2.2.1), pw_cell_below (below_alloc (Below.refl _ _) _) (hHeld.2.2.2.1), pw_cell_below (below_alloc (Below.refl _ _) _) (hHeld.2.2.2.2.1), pw_cell_below (below_alloc (Below.refl _ _) _) (hHeld.2.2.2.2.2)⟩ (fun hHeld => ?_)
  clear hK K
  refine norm_ (a' := ?_) ?_ ?_
  rotate_left
  · show Act.put _ (some 49) _ = _
    simp only [Act.put, List.setIfInBounds_toArray, List.set_cons_zero, List.set_cons_succ, i64_w, i32_w]
    rfl
  refine last_ (i := 18) (N := some 50) #[true, true, true, true, true, true, true, true, true, true, true, true, true, true, true, true, true, true, true, false] rfl rfl (by kernel_rfl) (by decide) (fun K hK => ?_)
  refine step_append_cells (w0 := w2) w2.heap.size (by rfl) (.tmp 32) (.tmp 49) 51 24 (.agg #[.float .f32 0, .float .f32 0, .float .f32 0]) 3 12 rfl Try.underlying51 (by kernel_rfl) rfl (by decide) (by decide) _ 0 [] [.float .f32 x3, .float .f32 y3, .float .f32 z3] rfl rfl rfl (by simp [Value.oneCell']) (own_nil _ _ _ _) hB hB.size (by omega) ?_
  intro v9 w9 hown9 hB9 hg9 hat9
  refine hK.out _ _ ?_
  clear hK K
  refine norm_ (a' := ?_) ?_ ?_
  rotate_left
  · show Act.put _ (some 50) _ = _
    simp only [Act.put, List.setIfInBounds_toArray, List.set_cons_zero, List.set_cons_succ, i64_w, i32_w]
    rfl
  refine pure_ (i := 19) (N := some 7) (v := ?_) (a' := ?_) #[true, true, true, true, true, true, true, true, true, true, true, true, true, true, true, true, true, true, true, true] rfl rfl (by kernel_rfl) (fun _ _ _ h => h) (Or.inl ⟨by rfl, ?_⟩) ?_ ?_
  rotate_left
  · intro w'
    go_simp
    with_reducible rfl
  rotate_left
  · simp only [Act.put, List.setIfInBounds_toArray, List.set_cons_zero, List.set_cons_succ, i64_w, i32_w]
    rfl
  refine done_ (by kernel_rfl) ?_
  have hown := own_one hown9
  have HPF := Aside0.mk ((PFs.refl []).snoc (pf_mix (p := ofP au av ahd) (q := ofP bu bv bhd) hx3 hy3 hz3 hp1 hq1 hr1 hp2 hq2 hr2))
  clear hB hown9 hx3 hy3 hz3 hp1 hq1 hp2 hq2 hr1 hr2
  have hB := hB9
  clear hB9 cg3_15
  have cg3_15 : w9.cell? ⟨g3, 15, none⟩ = some (.slice aA an ac) := (blk_cell (blk_below Xg3 hB) 15).trans rfl
  go_wp2_with fail
  go_loopw [7, 8] (fun v i wr => ∃ (k : Nat) (ps : List P3), k ≤ an ∧ i = .int .i64 k ∧ Aside0 (OwnP wr w2.heap.size v ps) ∧ Aside0 (PFs ps (ownB apl bpl awt bwt (ofP au av ahd) (ofP bu bv bhd) t ++ seenB (ss.take k) rs t)) ∧ Aside0 (Below w2.heap.size w2 wr)) (fun _ i _ => an - (intOf i).toNat)
  case atStart => exact ⟨0, _, Nat.zero_le _, rfl, ⟨hown⟩, ⟨by rw [List.take_zero, seenB_nil, List.append_nil, HO.out]; exact HPF.out⟩, ⟨hB⟩⟩
  case round =>
    clear hown HPF hB cg3_1 cg3_3 cg3_4 cg3_7 cg3_12 cg3_15 cg4_1 cg4_3 cg4_4 cg4_7 cg4_12 cg4_15
    obtain ⟨k, ps, hk, rfl, HW, HP, HB⟩ := hrel
    have hown := HW.out
    have hB := HB.out
    clear HW HB
    obtain ⟨vo, rfl⟩ : ∃ vo, vo = u7 := ⟨_, rfl⟩
    obtain ⟨wo, rfl⟩ : ∃ wo, wo = wr := ⟨_, rfl⟩
    have cg3_15 : wo.cell? ⟨g3, 15, none⟩ = some (.slice aA an ac) := (blk_cell (blk_below Xg3 hB) 15).trans rfl
    by_cases hlt : k < an
    · obtain ⟨ad, eA, hc⟩ := (hS2.below hB).at_ k hlt
      subst eA
      have hlk : k < ss.length := by rw [hS2.len]; exact hlt
      have hle : ∀ qs : List P3, PFs qs (ownB apl bpl awt bwt (ofP au av ahd) (ofP bu bv bhd) t ++ seenB (ss.take k) rs t) → qs.length * 12 + 12 ≤ 140737488355328 := fun qs h => ps_bound h (ownB_le _ _ _ _ _ _ _) hlt hn
      have HLE := Aside0.mk hle
      have HST := Aside0.mk (seenB_step ss rs t k hlk)
      have ks0 := hSH.lo k hlk
      have ks1 := hSH.hi k hlk
      generalize ss.getD k default = s at hc HST ks0 ks1
      have hc : At wo (ad.add (k * 5)) [.int .i64 s.ki, .int .i64 s.id, .int .i64 s.x, .int .i64 s.y, .int .i64 s.hd] := hc
      have hk2 : (k : Int) < (an : Int) := Int.ofNat_lt.mpr hlt
      have hk0 : (0 : Int) ≤ k := Int.natCast_nonneg k
      clear hle
      go_wp2_with (first
        | ((with_reducible refine gate_dst (N := 62) rfl ?_); refine wpList_load_at rfl 55 (.tmp 61) rfl _ rfl [.int .i64 s.ki, .int .i64 s.id, .int .i64 s.x, .int .i64 s.y, .int .i64 s.hd] _ Try.underlying55 rfl (by kernel_rfl) hc ?_)
        | ((with_reducible refine gate_dst (N := 9) rfl ?_); refine box_event ?hg (N := 9) ?hd (cs := #[.int .i64 0, .int .i64 0, .int .i64 0, .int .i64 0, .int .i64 0]) (t := 55) ?hr ?_; (case hd => rfl); (case hg => rfl); (case hr => first | (go_simp; done) | (go_simp; rfl)); intro g9 eg9 w5 Xg9 Bg9; have hg9 : wo.heap.size ≤ g9 := Nat.le_of_eq eg9.symm; clear eg9)
        | ((with_reducible refine gate_store (t := 55) (p := 9) rfl ?_); refine wpList_store_blk rfl 55 (.tmp 9) (.tmp 62) rfl g9 [.int .i64 s.ki, .int .i64 s.id, .int .i64 s.x, .int .i64 s.y, .int .i64 s.hd] rfl rfl 55 _ Xg9 (by kernel_rfl) rfl rfl ?_; intro w6 Xs hb6 hk6 hz6; have hBr := hb6 _ _ Bg9 hg9; have hB := below_step hB hBr; have hown := pw_own_below hown hBr; clear hb6 hk6 Xg9 Bg9; have Xg9 := Xs; clear Xs; have cg9_0 : w6.cell? ⟨g9, 0, none⟩ = some (.int .i64 s.ki) := (blk_cell Xg9 0).trans rfl; have cg9_1 : w6.cell? ⟨g9, 1, none⟩ = some (.int .i64 s.id) := (blk_cell Xg9 1).trans rfl; have cg9_2 : w6.cell? ⟨g9, 2, none⟩ = some (.int .i64 s.x) := (blk_cell Xg9 2).trans rfl; have cg9_3 : w6.cell? ⟨g9, 3, none⟩ = some (.int .i64 s.y) := (blk_cell Xg9 3).trans rfl; have cg9_4 : w6.cell? ⟨g9, 4, none⟩ = some (.int .i64 s.hd) := (blk_cell Xg9 4).trans rfl; have cg4_15 : w6.cell? ⟨g4, 15, none⟩ = some (.slice bA bn bc) := (blk_cell (blk_below Xg4 hB) 15).trans rfl))
      go_loopw [7, 10, 11] (fun v d j wi => ∃ (m : Nat) (b : Bool) (ps : List P3), m ≤ bn ∧ j = .int .i64 m ∧ d = .bool b ∧ Aside0 (OwnP wi w2.heap.size v ps) ∧ Aside0 (Below w2.heap.size w2 wi) ∧ Aside0 (wi.heap[g9]? = some (.cells #[.int .i64 s.ki, .int .i64 s.id, .int .i64 s.x, .int .i64 s.y, .int .i64 s.hd] 55 (0, 0))) ∧ Aside0 (b = false → Apart s rs m ∧ PFs ps (ownB apl bpl awt bwt (ofP au av ahd) (ofP bu bv bhd) t ++ seenB (ss.take k) rs t)) ∧ Aside0 (b = true → PFs ps ((ownB apl bpl awt bwt (ofP au av ahd) (ofP bu bv bhd) t ++ seenB (ss.take k) rs t) ++ hits s rs t))) (fun _ _ j _ => bn - (intOf j).toNat)
      case atStart => exact ⟨0, false, ps, Nat.zero_le _, rfl, rfl, ⟨hown⟩, ⟨hB⟩, ⟨Xg9⟩, ⟨fun _ => ⟨Apart.zero _ _, HP.out⟩⟩, ⟨fun h => by cases h⟩⟩
      case round =>
        clear hown hB Xg9 HP cg9_0 cg9_1 cg9_2 cg9_3 cg9_4 cg4_15 cg3_15
        obtain ⟨m, b, ps, hmb, rfl, rfl, HW, HB, HX, HF, HT⟩ := hrel
        have hown := HW.out
        have hB := HB.out
        have Xg9 := HX.out
        clear HB HX HW
        obtain ⟨wi, rfl⟩ : ∃ wi, wi = wr := ⟨_, rfl⟩
        have cg4_15 : wi.cell? ⟨g4, 15, none⟩ = some (.slice bA bn bc) := (blk_cell (blk_below Xg4 hB) 15).trans rfl
        by_cases hlm : m < bn
        · have hm2 : (m : Int) < (bn : Int) := Int.ofNat_lt.mpr hlm
          have hm0 : (0 : Int) ≤ m := Int.natCast_nonneg m
          cases b with
          | true =>
            have HPN := Aside0.mk (HT.out rfl)
            clear HT HF
            go_wp2_with fail
            go_roundw
            case rel => exact ⟨k + 1, _, by omega, by go_num, ⟨hown⟩, ⟨by rw [HST.out, ← List.append_assoc]; exact HPN.out⟩, ⟨hB⟩⟩
            case measure => simp [intOf]; omega
          | false =>
            obtain ⟨HA, HP⟩ := HF.out rfl
            have HA := Aside0.mk HA
            have HP := Aside0.mk HP
            clear HF HT
            have hle := HLE.out ps HP.out
            obtain ⟨bd, eB, hd⟩ := (hR2.below hB).at_ m hlm
            subst eB
            have hlr : m < rs.length := by rw [hR2.len]; exact hlm
            have kr0 := hRH.lo m hlr
            have kr1 := hRH.hi m hlr
            obtain ⟨r, hr⟩ : ∃ r, rs.getD m default = r := ⟨_, rfl⟩
            rw [hr] at hd kr0 kr1
            have HR := Aside0.mk hr
            clear hr
            have hd : At wi (bd.add (m * 5)) [.int .i64 r.ki, .int .i64 r.id, .int .i64 r.x, .int .i64 r.y, .int .i64 r.hd] := hd
            by_cases h4 : s.ki = r.ki
            · have e4 : (r.ki == s.ki) = true := beq_iff_eq.2 h4.symm
              by_cases h5 : s.id = r.id
              · have e5 : (r.id == s.id) = true := beq_iff_eq.2 h5.symm
                have HM := Aside0.mk (hits_some (t := t) HA.out hlr (by rw [HR.out]; exact meets_yes h4 h5))
                rw [HR.out] at HM
                clear h4 h5
                go_wp2_with (first
                  | ((with_reducible refine gate_dst (N := 78) rfl ?_); refine wpList_load_at rfl 55 (.tmp 77) rfl _ rfl [.int .i64 r.ki, .int .i64 r.id, .int .i64 r.x, .int .i64 r.y, .int .i64 r.hd] _ Try.underlying55 rfl (by kernel_rfl) hd ?_)
                  | ((with_reducible refine gate_dst (N := 12) rfl ?_); refine box_event ?hg (N := 12) ?hd (cs := #[.int .i64 0, .int .i64 0, .int .i64 0, .int .i64 0, .int .i64 0]) (t := 55) ?hr ?_; (case hd => rfl); (case hg => rfl); (case hr => first | (go_simp; done) | (go_simp; rfl)); intro g12 eg12 w15 Xg12 Bg12; have hg12 : wi.heap.size ≤ g12 := Nat.le_of_eq eg12.symm; have n12 : g9 ≠ g12 := (by have := blk_lt Xg9; omega); clear eg12)
                  | ((with_reducible refine gate_store (t := 55) (p := 12) rfl ?_); refine wpList_store_blk rfl 55 (.tmp 12) (.tmp 78) rfl g12 [.int .i64 r.ki, .int .i64 r.id, .int .i64 r.x, .int .i64 r.y, .int .i64 r.hd] rfl rfl 55 _ Xg12 (by kernel_rfl) rfl rfl ?_; intro w16 Xs hb6 hk6 hz6; have hBr := hb6 _ _ Bg12 hg12; have hB := below_step hB hBr; have hown := pw_own_below hown hBr; have Xg9 := blk_below Xg9 hBr; have hsz := hBr.size; clear hb6 hk6 Xg12 Bg12 hBr; have Xg12 := Xs; clear Xs; have cg9_0 : w16.cell? ⟨g9, 0, none⟩ = some (.int .i64 s.ki) := (blk_cell Xg9 0).trans rfl; have cg9_1 : w16.cell? ⟨g9, 1, none⟩ = some (.int .i64 s.id) := (blk_cell Xg9 1).trans rfl; have cg9_2 : w16.cell? ⟨g9, 2, none⟩ = some (.int .i64 s.x) := (blk_cell Xg9 2).trans rfl; have cg9_3 : w16.cell? ⟨g9, 3, none⟩ = some (.int .i64 s.y) := (blk_cell Xg9 3).trans rfl; have cg9_4 : w16.cell? ⟨g9, 4, none⟩ = some (.int .i64 s.hd) := (blk_cell Xg9 4).trans rfl; have cg12_0 : w16.cell? ⟨g12, 0, none⟩ = some (.int .i64 r.ki) := (blk_cell Xg12 0).trans rfl; have cg12_1 : w16.cell? ⟨g12, 1, none⟩ = some (.int .i64 r.id) := (blk_cell Xg12 1).trans rfl; have cg12_2 : w16.cell? ⟨g12, 2, none⟩ = some (.int .i64 r.x) := (blk_cell Xg12 2).trans rfl; have cg12_3 : w16.cell? ⟨g12, 3, none⟩ = some (.int .i64 r.y) := (blk_cell Xg12 3).trans rfl; have cg12_4 : w16.cell? ⟨g12, 4, none⟩ = some (.int .i64 r.hd) := (blk_cell Xg12 4).trans rfl))
                refine start_ (n := 16) (S := fun w' => w'.cell? ⟨g9, 2, none⟩ = some (.int .i64 s.x) ∧ w'.cell? ⟨g9, 3, none⟩ = some (.int .i64 s.y) ∧ w'.cell? ⟨g9, 4, none⟩ = some (.int .i64 s.hd) ∧ w'.cell? ⟨g12, 2, none⟩ = some (.int .i64 r.x) ∧ w'.cell? ⟨g12, 3, none⟩ = some (.int .i64 r.y) ∧ w'.cell? ⟨g12, 4, none⟩ = some (.int .i64 r.hd)) (ds := [14]) #[false, false, false, false, false, false, false, false, false, false, false, false, false, false, false, false] (by kernel_rfl) rfl rfl ⟨cg9_2, cg9_3, cg9_4, cg12_2, cg12_3, cg12_4⟩ (fun hHeld => ?_)
                refine pure_ (i := 0) (N := some 91) (v := ?_) (a' := ?_) #[true, false, false, false, false, false, false, false, false, false, false, false, false, false, false, false] rfl rfl (by kernel_rfl) (fun _ _ _ h => h) (Or.inl ⟨by rfl, ?_⟩) ?_ ?_
                rotate_left
                · intro w'
                  go_simp
                  with_reducible rfl
                rotate_left
                · simp only [Act.put, List.setIfInBounds_toArray, List.set_cons_zero, List.set_cons_succ, i64_w, i32_w]
                  rfl
                refine pure_ (i := 1) (N := some 92) (v := ?_) (a' := ?_) #[true, true, false, false, false, false, false, false, false, false, false, false, false, false, false, false] rfl rfl (by kernel_rfl) (fun _ _ _ h => h) (Or.inl ⟨by rfl, ?_⟩) ?_ ?_
                rotate_left
                · intro w'
                  go_simp
                  with_reducible rfl
                rotate_left
                · simp only [Act.put, List.setIfInBounds_toArray, List.set_cons_zero, List.set_cons_succ, i64_w, i32_w]
                  rfl
                refine pure_ (i := 3) (N := some 94) (v := ?_) (a' := ?_) #[true, true, false, true, false, false, false, false, false, false, false, false, false, false, false, false] rfl rfl (by kernel_rfl) (fun _ _ _ h => h) (Or.inl ⟨by rfl, ?_⟩) ?_ ?_
                rotate_left
                · intro w'
                  go_simp
                  with_reducible rfl
                rotate_left
                · simp only [Act.put, List.setIfInBounds_toArray, List.set_cons_zero, List.set_cons_succ, i64_w, i32_w]
                  rfl
                refine pure_ (i := 6) (N := some 97) (v := ?_) (a' := ?_) #[true, true, false, true, false, false, true, false, false, false, false, false, false, false, false, false] rfl rfl (by kernel_rfl) (fun _ _ _ h => h) (Or.inl ⟨by rfl, ?_⟩) ?_ ?_
                rotate_left
                · intro w'
                  go_simp
                  with_reducible rfl
                rotate_left
                · simp only [Act.put, List.setIfInBounds_toArray, List.set_cons_zero, List.set_cons_succ, i64_w, i32_w]
                  rfl
                refine pure_ (i := 8) (N := some 99) (v := ?_) (a' := ?_) #[true, true, false, true, false, false, true, false, true, false, false, false, false, false, false, false] rfl rfl (by kernel_rfl) (fun _ _ _ h => h) (Or.inl ⟨by rfl, ?_⟩) ?_ ?_
                rotate_left
                · intro w'
                  go_simp
                  with_reducible rfl
                rotate_left
                · simp only [Act.put, List.setIfInBounds_toArray, List.set_cons_zero, List.set_cons_succ, i64_w, i32_w]
                  rfl
                refine pure_ (i := 11) (N := some 102) (v := ?_) (a' := ?_) #[true, true, false, true, false, false, true, false, true, false, false, true, false, false, false, false] rfl rfl (by kernel_rfl) (fun _ _ _ h => h) (Or.inl ⟨by rfl, ?_⟩) ?_ ?_
                rotate_left
                · intro w'
                  go_simp
                  with_reducible rfl
                rotate_left
                · simp only [Act.put, List.setIfInBounds_toArray, List.set_cons_zero, List.set_cons_succ, i64_w, i32_w]
                  rfl
                refine take_ (i := 2) (N := some 93) (v := ?_) (a' := ?_) #[true, true, true, true, false, false, true, false, true, false, false, true, false, false, false, false] rfl rfl (by kernel_rfl) (fun _ _ _ h => h) (Or.inl ⟨by rfl, ?_⟩) hHeld ?_ ?_
                rotate_left
                · rintro w' ⟨s0, s1, s2, s3, s4, s5⟩
                  go_simp
                  with_reducible rfl
                rotate_left
                · simp only [Act.put, List.setIfInBounds_toArray, List.set_cons_zero, List.set_cons_succ, i64_w, i32_w]
                  rfl
                refine take_ (i := 4) (N := some 95) (v := ?_) (a' := ?_) #[true, true, true, true, true, false, true, false, true, false, false, true, false, false, false, false] rfl rfl (by kernel_rfl) (fun _ _ _ h => h) (Or.inl ⟨by rfl, ?_⟩) hHeld ?_ ?_
                rotate_left
                · rintro w' ⟨s0, s1, s2, s3, s4, s5⟩
                  go_simp
                  with_reducible rfl
                rotate_left
                · simp only [Act.put, List.setIfInBounds_toArray, List.set_cons_zero, List.set_cons_succ, i64_w, i32_w]
                  rfl
                refine take_ (i := 7) (N := some 98) (v := ?_) (a' := ?_) #[true, true, true, true, true, false, true, true, true, false, false, true, false, false, false, false] rfl rfl (by kernel_rfl) (fun _ _ _ h => h) (Or.inl ⟨by rfl, ?_⟩) hHeld ?_ ?_
                rotate_left
                · rintro w' ⟨s0, s1, s2, s3, s4, s5⟩
                  go_simp
                  with_reducible rfl
                rotate_left
                · simp only [Act.put, List.setIfInBounds_toArray, List.set_cons_zero, List.set_cons_succ, i64_w, i32_w]
                  rfl
                refine take_ (i := 9) (N := some 100) (v := ?_) (a' := ?_) #[true, true, true, true, true, false, true, true, true, true, false, true, false, false, false, false] rfl rfl (by kernel_rfl) (fun _ _ _ h => h) (Or.inl ⟨by rfl, ?_⟩) hHeld ?_ ?_
                rotate_left
                · rintro w' ⟨s0, s1, s2, s3, s4, s5⟩
                  go_simp
                  with_reducible rfl
                rotate_left
                · simp only [Act.put, List.setIfInBounds_toArray, List.set_cons_zero, List.set_cons_succ, i64_w, i32_w]
                  rfl
                refine one_ (i := 5) (N := some 96) #[true, true, true, true, true, true, true, true, true, true, false, true, false, false, false, false] rfl rfl (by kernel_rfl) (by decide) (fun K hK => ?_)
                refine goes_ Try.func21 (by kernel_rfl) rfl _ (by rfl) rfl rfl (by simp only [List.map_toArray, List.map_cons, List.map_nil]; rfl) ?_
                refine (refof_calls s.x s.y s.hd (by first | exact kA0 | exact kB0 | exact ks0 | exact kr0) (by first | exact kA1 | exact kB1 | exact ks1 | exact kr1) _).mono ?_
                rintro e w8 ⟨p1, q1, r1, hp1, hq1, hr1', rfl, hb1⟩
                refine ⟨_, rfl, ?_⟩
                have hB := below_step (below_drew1 hB) hb1
                have hown := pw_own_below (own_drew hown) hb1
                have Xg9' := blk_below (blk_drew Xg9) hb1
                refine hK.out _ _ ⟨pw_cell_below hb1 (hHeld.1), pw_cell_below hb1 (hHeld.2.1), pw_cell_below hb1 (hHeld.2.2.1), pw_cell_below hb1 (hHeld.2.2.2.1), pw_cell_below hb1 (hHeld.2.2.2.2.1), pw_cell_below hb1 (hHeld.2.2.2.2.2)⟩ (fun hHeld => ?_)
                clear hK K
                refine norm_ (a' := ?_) ?_ ?_
                rotate_left
                · show Act.put _ (some 96) _ = _
                  simp only [Act.put, List.setIfInBounds_toArray, List.set_cons_zero, List.set_cons_succ, i64_w, i32_w]
                  rfl
                refine one_ (i := 10) (N := some 101) #[true, true, true, true, true, true, true, true, true, true, true, true, false, false, false, false] rfl rfl (by kernel_rfl) (by decide) (fun K hK => ?_)
                refine goes_ Try.func21 (by kernel_rfl) rfl _ (by rfl) rfl rfl (by simp only [List.map_toArray, List.map_cons, List.map_nil]; rfl) ?_
                refine (refof_calls r.x r.y r.hd (by first | exact kA0 | exact kB0 | exact ks0 | exact kr0) (by first | exact kA1 | exact kB1 | exact ks1 | exact kr1) _).mono ?_
                rintro e w8 ⟨p2, q2, r2, hp2, hq2, hr2', rfl, hb2⟩
                refine ⟨_, rfl, ?_⟩
                have hB := below_step hB hb2
                have hown := pw_own_below hown hb2
                have Xg9' := blk_below Xg9' hb2
                refine hK.out _ _ ⟨pw_cell_below hb2 (hHeld.1), pw_cell_below hb2 (hHeld.2.1), pw_cell_below hb2 (hHeld.2.2.1), pw_cell_below hb2 (hHeld.2.2.2.1), pw_cell_below hb2 (hHeld.2.2.2.2.1), pw_cell_below hb2 (hHeld.2.2.2.2.2)⟩ (fun hHeld => ?_)
                clear hK K
                refine norm_ (a' := ?_) ?_ ?_
                rotate_left
                · show Act.put _ (some 101) _ = _
                  simp only [Act.put, List.setIfInBounds_toArray, List.set_cons_zero, List.set_cons_succ, i64_w, i32_w]
                  rfl
                refine one_ (i := 12) (N := some 103) #[true, true, true, true, true, true, true, true, true, true, true, true, true, false, false, false] rfl rfl (by kernel_rfl) (by decide) (fun K hK => ?_)
                refine goes_ Try.func13 (by kernel_rfl) rfl _ (by rfl) rfl rfl (by simp only [List.map_toArray, List.map_cons, List.map_nil]; rfl) ?_
                refine (refmix_calls p1 q1 r1 p2 q2 r2 t _).mono ?_
                rintro e w8 ⟨x3, y3, z3, hx3, hy3, hz3, rfl, hb3⟩
                refine ⟨_, rfl, ?_⟩
                have hB := below_step hB hb3
                have hown := pw_own_below hown hb3
                have Xg9' := blk_below Xg9' hb3
                refine hK.out _ _ ⟨pw_cell_below hb3 (hHeld.1), pw_cell_below hb3 (hHeld.2.1), pw_cell_below hb3 (hHeld.2.2.1), pw_cell_below hb3 (hHeld.2.2.2.1), pw_cell_below hb3 (hHeld.2.2.2.2.1), pw_cell_below hb3 (hHeld.2.2.2.2.2)⟩ (fun hHeld => ?_)
                clear hK K
                refine norm_ (a' := ?_) ?_ ?_
                rotate_left
                · show Act.put _ (some 103) _ = _
                  simp only [Act.put, List.setIfInBounds_toArray, List.set_cons_zero, List.set_cons_succ, i64_w, i32_w]
                  rfl
                refine one_ (i := 13) (N := some 104) #[true, true, true, true, true, true, true, true, true, true, true, true, true, true, false, false] rfl rfl (by kernel_rfl) (by decide) (fun K hK => ?_)
                refine value_ (w1 := ?_) (v := ?_) (by rfl) rfl ?_ ?_
                rotate_left 2
                · go_simp
                  constructor
                  · rfl
                  · rfl
                refine hK.out _ _ ⟨pw_cell_below (below_alloc (Below.refl _ _) _) (hHeld.1), pw_cell_below (below_alloc (Below.refl _ _) _) (hHeld.2.1), pw_cell_below (below_alloc (Below.refl _ _) _) (hHeld.2.2.1), pw_cell_below (below_alloc (Below.refl _ _) _) (hHeld.2.2.2.1), pw_cell_below (below_alloc (Below.refl _ _) _) (hHeld.2.2.2.2.1), pw_cell_below (below_alloc (Below.refl _ _) _) (hHeld.2.2.2.2.2)⟩ (fun hHeld => ?_)
                clear hK K
                refine norm_ (a' := ?_) ?_ ?_
                rotate_left
                · show Act.put _ (some 104) _ = _
                  simp only [Act.put, List.setIfInBounds_toArray, List.set_cons_zero, List.set_cons_succ, i64_w, i32_w]
                  rfl
                refine last_ (i := 14) (N := some 105) #[true, true, true, true, true, true, true, true, true, true, true, true, true, true, true, false] rfl rfl (by kernel_rfl) (by decide) (fun K hK => ?_)
                refine step_append_cells (w0 := w2) w2.heap.size (by rfl) (.tmp 91) (.tmp 104) 51 24 (.agg #[.float .f32 0, .float .f32 0, .float .f32 0]) 3 12 rfl Try.underlying51 (by kernel_rfl) rfl (by decide) (by decide) _ ps.length (rowP ps) [.float .f32 x3, .float .f32 y3, .float .f32 z3] rfl rfl rfl (by simp [Value.oneCell']) hown hB hB.size (by omega) ?_
                have N9 := own_ne hown Xg9' (by decide)
                intro v9 w9 hown9 hB9 hg9' hat9
                refine hK.out _ _ ?_
                clear hK K
                refine norm_ (a' := ?_) ?_ ?_
                rotate_left
                · show Act.put _ (some 105) _ = _
                  simp only [Act.put, List.setIfInBounds_toArray, List.set_cons_zero, List.set_cons_succ, i64_w, i32_w]
                  rfl
                refine pure_ (i := 15) (N := some 7) (v := ?_) (a' := ?_) #[true, true, true, true, true, true, true, true, true, true, true, true, true, true, true, true] rfl rfl (by kernel_rfl) (fun _ _ _ h => h) (Or.inl ⟨by rfl, ?_⟩) ?_ ?_
                rotate_left
                · intro w'
                  go_simp
                  with_reducible rfl
                rotate_left
                · simp only [Act.put, List.setIfInBounds_toArray, List.set_cons_zero, List.set_cons_succ, i64_w, i32_w]
                  rfl
                refine done_ (by kernel_rfl) ?_

                have hown := own_more hown9
                have HPN := Aside0.mk (HP.out.snoc (pf_mix (p := s.p) (q := r.p) hx3 hy3 hz3 hp1 hq1 hr1' hp2 hq2 hr2'))
                have hB := hB9
                have Xg9 := blk_grown Xg9' hg9' N9
                clear hown9 hB9 hx3 hy3 hz3 hp1 hq1 hp2 hq2
                go_wp2
                go_roundw
                case rel => exact ⟨m + 1, true, _, by omega, by go_num, rfl, ⟨hown⟩, ⟨hB⟩, ⟨Xg9⟩, ⟨fun h => by cases h⟩, ⟨fun _ => by rw [HM.out]; exact HPN.out⟩⟩
                case measure => simp [intOf]; omega
              · have e5 : (r.id == s.id) = false := beq_eq_false_iff_ne.2 (fun e => h5 e.symm)
                have HA2 := HA.out.step (by rw [HR.out]; exact meets_no2 h5)
                have HA2 := Aside0.mk HA2
                clear h4 h5
                go_wp2_with (first
                  | ((with_reducible refine gate_dst (N := 78) rfl ?_); refine wpList_load_at rfl 55 (.tmp 77) rfl _ rfl [.int .i64 r.ki, .int .i64 r.id, .int .i64 r.x, .int .i64 r.y, .int .i64 r.hd] _ Try.underlying55 rfl (by kernel_rfl) hd ?_)
                  | ((with_reducible refine gate_dst (N := 12) rfl ?_); refine box_event ?hg (N := 12) ?hd (cs := #[.int .i64 0, .int .i64 0, .int .i64 0, .int .i64 0, .int .i64 0]) (t := 55) ?hr ?_; (case hd => rfl); (case hg => rfl); (case hr => first | (go_simp; done) | (go_simp; rfl)); intro g12 eg12 w15 Xg12 Bg12; have hg12 : wi.heap.size ≤ g12 := Nat.le_of_eq eg12.symm; have n12 : g9 ≠ g12 := (by have := blk_lt Xg9; omega); clear eg12)
                  | ((with_reducible refine gate_store (t := 55) (p := 12) rfl ?_); refine wpList_store_blk rfl 55 (.tmp 12) (.tmp 78) rfl g12 [.int .i64 r.ki, .int .i64 r.id, .int .i64 r.x, .int .i64 r.y, .int .i64 r.hd] rfl rfl 55 _ Xg12 (by kernel_rfl) rfl rfl ?_; intro w16 Xs hb6 hk6 hz6; have hBr := hb6 _ _ Bg12 hg12; have hB := below_step hB hBr; have hown := pw_own_below hown hBr; have Xg9 := blk_below Xg9 hBr; have hsz := hBr.size; clear hb6 hk6 Xg12 Bg12 hBr; have Xg12 := Xs; clear Xs; have cg9_0 : w16.cell? ⟨g9, 0, none⟩ = some (.int .i64 s.ki) := (blk_cell Xg9 0).trans rfl; have cg9_1 : w16.cell? ⟨g9, 1, none⟩ = some (.int .i64 s.id) := (blk_cell Xg9 1).trans rfl; have cg9_2 : w16.cell? ⟨g9, 2, none⟩ = some (.int .i64 s.x) := (blk_cell Xg9 2).trans rfl; have cg9_3 : w16.cell? ⟨g9, 3, none⟩ = some (.int .i64 s.y) := (blk_cell Xg9 3).trans rfl; have cg9_4 : w16.cell? ⟨g9, 4, none⟩ = some (.int .i64 s.hd) := (blk_cell Xg9 4).trans rfl; have cg12_0 : w16.cell? ⟨g12, 0, none⟩ = some (.int .i64 r.ki) := (blk_cell Xg12 0).trans rfl; have cg12_1 : w16.cell? ⟨g12, 1, none⟩ = some (.int .i64 r.id) := (blk_cell Xg12 1).trans rfl; have cg12_2 : w16.cell? ⟨g12, 2, none⟩ = some (.int .i64 r.x) := (blk_cell Xg12 2).trans rfl; have cg12_3 : w16.cell? ⟨g12, 3, none⟩ = some (.int .i64 r.y) := (blk_cell Xg12 3).trans rfl; have cg12_4 : w16.cell? ⟨g12, 4, none⟩ = some (.int .i64 r.hd) := (blk_cell Xg12 4).trans rfl))
                go_roundw
                case rel => exact ⟨m + 1, false, _, by omega, by go_num, rfl, ⟨hown⟩, ⟨hB⟩, ⟨Xg9⟩, ⟨fun _ => ⟨HA2.out, HP.out⟩⟩, ⟨fun h => by cases h⟩⟩
                case measure => simp [intOf]; omega
            · have e4 : (r.ki == s.ki) = false := beq_eq_false_iff_ne.2 (fun e => h4 e.symm)
              have HA2 := Aside0.mk (HA.out.step (by rw [HR.out]; exact meets_no1 h4))
              clear h4
              go_wp2_with (first
                  | ((with_reducible refine gate_dst (N := 78) rfl ?_); refine wpList_load_at rfl 55 (.tmp 77) rfl _ rfl [.int .i64 r.ki, .int .i64 r.id, .int .i64 r.x, .int .i64 r.y, .int .i64 r.hd] _ Try.underlying55 rfl (by kernel_rfl) hd ?_)
                  | ((with_reducible refine gate_dst (N := 12) rfl ?_); refine box_event ?hg (N := 12) ?hd (cs := #[.int .i64 0, .int .i64 0, .int .i64 0, .int .i64 0, .int .i64 0]) (t := 55) ?hr ?_; (case hd => rfl); (case hg => rfl); (case hr => first | (go_simp; done) | (go_simp; rfl)); intro g12 eg12 w15 Xg12 Bg12; have hg12 : wi.heap.size ≤ g12 := Nat.le_of_eq eg12.symm; have n12 : g9 ≠ g12 := (by have := blk_lt Xg9; omega); clear eg12)
                  | ((with_reducible refine gate_store (t := 55) (p := 12) rfl ?_); refine wpList_store_blk rfl 55 (.tmp 12) (.tmp 78) rfl g12 [.int .i64 r.ki, .int .i64 r.id, .int .i64 r.x, .int .i64 r.y, .int .i64 r.hd] rfl rfl 55 _ Xg12 (by kernel_rfl) rfl rfl ?_; intro w16 Xs hb6 hk6 hz6; have hBr := hb6 _ _ Bg12 hg12; have hB := below_step hB hBr; have hown := pw_own_below hown hBr; have Xg9 := blk_below Xg9 hBr; have hsz := hBr.size; clear hb6 hk6 Xg12 Bg12 hBr; have Xg12 := Xs; clear Xs; have cg9_0 : w16.cell? ⟨g9, 0, none⟩ = some (.int .i64 s.ki) := (blk_cell Xg9 0).trans rfl; have cg9_1 : w16.cell? ⟨g9, 1, none⟩ = some (.int .i64 s.id) := (blk_cell Xg9 1).trans rfl; have cg9_2 : w16.cell? ⟨g9, 2, none⟩ = some (.int .i64 s.x) := (blk_cell Xg9 2).trans rfl; have cg9_3 : w16.cell? ⟨g9, 3, none⟩ = some (.int .i64 s.y) := (blk_cell Xg9 3).trans rfl; have cg9_4 : w16.cell? ⟨g9, 4, none⟩ = some (.int .i64 s.hd) := (blk_cell Xg9 4).trans rfl; have cg12_0 : w16.cell? ⟨g12, 0, none⟩ = some (.int .i64 r.ki) := (blk_cell Xg12 0).trans rfl; have cg12_1 : w16.cell? ⟨g12, 1, none⟩ = some (.int .i64 r.id) := (blk_cell Xg12 1).trans rfl; have cg12_2 : w16.cell? ⟨g12, 2, none⟩ = some (.int .i64 r.x) := (blk_cell Xg12 2).trans rfl; have cg12_3 : w16.cell? ⟨g12, 3, none⟩ = some (.int .i64 r.y) := (blk_cell Xg12 3).trans rfl; have cg12_4 : w16.cell? ⟨g12, 4, none⟩ = some (.int .i64 r.hd) := (blk_cell Xg12 4).trans rfl))
              go_roundw
              case rel => exact ⟨m + 1, false, _, by omega, by go_num, rfl, ⟨hown⟩, ⟨hB⟩, ⟨Xg9⟩, ⟨fun _ => ⟨HA2.out, HP.out⟩⟩, ⟨fun h => by cases h⟩⟩
              case measure => simp [intOf]; omega
        · obtain rfl : m = bn := by omega
          have HPN : Aside0 (PFs ps ((ownB apl bpl awt bwt (ofP au av ahd) (ofP bu bv bhd) t ++ seenB (ss.take k) rs t) ++ hits s rs t)) := ⟨by
            cases b with
            | true => exact HT.out rfl
            | false =>
              obtain ⟨HA, HP⟩ := HF.out rfl
              rw [hits_none (t := t) (by rw [hR2.len]; exact HA), List.append_nil]
              exact HP⟩
          clear HF HT
          go_wp2_with fail
          go_roundw
          case rel => exact ⟨k + 1, _, by omega, by go_num, ⟨hown⟩, ⟨by rw [HST.out, ← List.append_assoc]; exact HPN.out⟩, ⟨hB⟩⟩
          case measure => simp [intOf]; omega
    · obtain rfl : k = an := by omega
      obtain ⟨A, c, rfl, _, _⟩ := own_prow hown
      have hHP : PFs ps (ownB apl bpl awt bwt (ofP au av ahd) (ofP bu bv bhd) t ++ seenB ss rs t) := by
        have := HP.out
        rwa [List.take_of_length_le (Nat.le_of_eq hS2.len)] at this
      have HP := Aside0.mk hHP
      clear hHP
      go_wp2_with fail
      go_ret
      exact ⟨A, c, ps, rfl, own_less hown hB0.size, HP.out, below_step hB0 hB⟩

set_option maxHeartbeats 8000000 in
set_option maxRecDepth 100000 in
theorem refbetween_calls_3 (atk apl au av avx avy ahd ahe aen aam aco awt asp asc : Int) (anm : ByteArray) (aA : Option Addr) (an ac : Nat) (btk bpl bu bv bvx bvy bhd bhe ben bam bco bwt bsp bsc : Int) (bnm : ByteArray) (bA : Option Addr) (bn bc : Nat) (t : Nat) (w : World) (ss rs : List S5) (hS : SRow w aA an ss) (hR : SRow w bA bn rs) (hn : an * 12 + 12 ≤ 140737488355328) (hm : bn ≤ 9223372036854775807) (kA0 : -9223372036854775808 ≤ ahd) (kA1 : ahd ≤ 9223372036854775807) (kB0 : -9223372036854775808 ≤ bhd) (kB1 : bhd ≤ 9223372036854775807) (hSH : Hds ss) (hRH : Hds rs) (h1 : apl = bpl) (h2 : awt ≤ 0) (h3 : ¬ bwt ≤ 0) : Calls Try.prog 27 #[.agg #[.int .u64 atk, .int .i64 apl, .string anm, .int .i64 au, .int .i64 av, .int .i64 avx, .int .i64 avy, .int .i64 ahd, .int .i64 ahe, .int .i64 aen, .int .i64 aam, .int .i64 aco, .int .i64 awt, .int .i64 asp, .int .i64 asc, .slice aA an ac], .agg #[.int .u64 btk, .int .i64 bpl, .string bnm, .int .i64 bu, .int .i64 bv, .int .i64 bvx, .int .i64 bvy, .int .i64 bhd, .int .i64 bhe, .int .i64 ben, .int .i64 bam, .int .i64 bco, .int .i64 bwt, .int .i64 bsp, .int .i64 bsc, .slice bA bn bc], .float .f32 t] w fun e w' => ∃ A c ps, e = .returned (.slice A ps.length c) ∧ OwnP w' w.heap.size (.slice A ps.length c) ps ∧ PFs ps (ownB apl bpl awt bwt (ofP au av ahd) (ofP bu bv bhd) t ++ seenB ss rs t) ∧ Below w.heap.size w w' := by
  have hu47 := Try.underlying47
  have hu40 := Try.underlying40
  have hu38 := Try.underlying38
  have hu55 := Try.underlying55
  have hu45 := Try.underlying45
  have hu51 := Try.underlying51
  have hu24 := Try.underlying24
  have hu3 := Try.underlying3
  have hnn : (an : Int) ≤ 9223372036854775807 := by omega
  have hmm : (bn : Int) ≤ 9223372036854775807 := by omega
  have e1 : (apl == bpl) = true := beq_iff_eq.2 h1
  have d2 : decide (awt ≤ 0) = true := decide_eq_true h2
  have d3 : decide (bwt ≤ 0) = false := decide_eq_false h3
  have h3' : 0 < bwt := by omega
  have HO := Aside0.mk (show ownB apl bpl awt bwt (ofP au av ahd) (ofP bu bv bhd) t = [] from if_neg (fun h => h3 h.2.2))
  clear h1
  go_enter Try.func27, Try.ntmps27
  go_wp2_with (first
        | ((try (refine gate_guard (by rfl) ?_; dsimp only)); refine wpList_fl _ rfl _ _ _ _ _ rfl (by decide) _ _ _ _ rfl rfl (by first | assumption | exact Fe.refl _) (by first | assumption | exact Fe.refl _) ?_; intro z nd hz)
        | ((try (refine gate_guard (by rfl) ?_; dsimp only)); refine wpList_flc _ rfl _ _ _ _ _ rfl (by decide) _ _ _ _ rfl rfl (by first | assumption | exact Fe.refl _) (by first | assumption | exact Fe.refl _) ?_)
        | ((with_reducible refine gate_dst (N := 3) rfl ?_); refine box_event ?hg (N := 3) ?hd (cs := #[.int .u64 atk, .int .i64 apl, .string anm, .int .i64 au, .int .i64 av, .int .i64 avx, .int .i64 avy, .int .i64 ahd, .int .i64 ahe, .int .i64 aen, .int .i64 aam, .int .i64 aco, .int .i64 awt, .int .i64 asp, .int .i64 asc, .slice aA an ac]) (t := 47) ?hr ?_; (case hd => rfl); (case hg => rfl); (case hr => first | (go_simp; done) | (go_simp; rfl)); intro g3 eg3 w1 Xg3 Bg3; clear eg3)
        | ((with_reducible refine gate_dst (N := 4) rfl ?_); refine box_event ?hg (N := 4) ?hd (cs := #[.int .u64 btk, .int .i64 bpl, .string bnm, .int .i64 bu, .int .i64 bv, .int .i64 bvx, .int .i64 bvy, .int .i64 bhd, .int .i64 bhe, .int .i64 ben, .int .i64 bam, .int .i64 bco, .int .i64 bwt, .int .i64 bsp, .int .i64 bsc, .slice bA bn bc]) (t := 47) ?hr ?_; (case hd => rfl); (case hg => rfl); (case hr => first | (go_simp; done) | (go_simp; rfl)); intro g4 eg4 w2 Xg4 Bg4; have Xg3 := blk_below Xg3 Bg4; have hB0 := below_step Bg3 Bg4; have hS2 := (hS.below Bg3).below Bg4; have hR2 := (hR.below Bg3).below Bg4; have hB := Below.refl w2.heap.size w2; have lg3 := blk_lt Xg3; have lg4 := blk_lt Xg4; clear eg4 Bg3 Bg4 hS hR; have cg3_1 : w2.cell? ⟨g3, 1, none⟩ = some (.int .i64 apl) := (blk_cell Xg3 1).trans rfl; have cg3_3 : w2.cell? ⟨g3, 3, none⟩ = some (.int .i64 au) := (blk_cell Xg3 3).trans rfl; have cg3_4 : w2.cell? ⟨g3, 4, none⟩ = some (.int .i64 av) := (blk_cell Xg3 4).trans rfl; have cg3_7 : w2.cell? ⟨g3, 7, none⟩ = some (.int .i64 ahd) := (blk_cell Xg3 7).trans rfl; have cg3_12 : w2.cell? ⟨g3, 12, none⟩ = some (.int .i64 awt) := (blk_cell Xg3 12).trans rfl; have cg3_15 : w2.cell? ⟨g3, 15, none⟩ = some (.slice aA an ac) := (blk_cell Xg3 15).trans rfl; have cg4_1 : w2.cell? ⟨g4, 1, none⟩ = some (.int .i64 bpl) := (blk_cell Xg4 1).trans rfl; have cg4_3 : w2.cell? ⟨g4, 3, none⟩ = some (.int .i64 bu) := (blk_cell Xg4 3).trans rfl; have cg4_4 : w2.cell? ⟨g4, 4, none⟩ = some (.int .i64 bv) := (blk_cell Xg4 4).trans rfl; have cg4_7 : w2.cell? ⟨g4, 7, none⟩ = some (.int .i64 bhd) := (blk_cell Xg4 7).trans rfl; have cg4_12 : w2.cell? ⟨g4, 12, none⟩ = some (.int .i64 bwt) := (blk_cell Xg4 12).trans rfl; have cg4_15 : w2.cell? ⟨g4, 15, none⟩ = some (.slice bA bn bc) := (blk_cell Xg4 15).trans rfl))
  have hown : OwnP w2 w2.heap.size (.slice none 0 0) [] := own_nil _ _ _ _
  have HPF := Aside0.mk (PFs.refl [])
  go_wp2_with fail
  go_loopw [7, 8] (fun v i wr => ∃ (k : Nat) (ps : List P3), k ≤ an ∧ i = .int .i64 k ∧ Aside0 (OwnP wr w2.heap.size v ps) ∧ Aside0 (PFs ps (ownB apl bpl awt bwt (ofP au av ahd) (ofP bu bv bhd) t ++ seenB (ss.take k) rs t)) ∧ Aside0 (Below w2.heap.size w2 wr)) (fun _ i _ => an - (intOf i).toNat)
  case atStart => exact ⟨0, _, Nat.zero_le _, rfl, ⟨hown⟩, ⟨by rw [List.take_zero, seenB_nil, List.append_nil, HO.out]; exact HPF.out⟩, ⟨hB⟩⟩
  case round =>
    clear hown HPF hB cg3_1 cg3_3 cg3_4 cg3_7 cg3_12 cg3_15 cg4_1 cg4_3 cg4_4 cg4_7 cg4_12 cg4_15
    obtain ⟨k, ps, hk, rfl, HW, HP, HB⟩ := hrel
    have hown := HW.out
    have hB := HB.out
    clear HW HB
    obtain ⟨vo, rfl⟩ : ∃ vo, vo = u7 := ⟨_, rfl⟩
    obtain ⟨wo, rfl⟩ : ∃ wo, wo = wr := ⟨_, rfl⟩
    have cg3_15 : wo.cell? ⟨g3, 15, none⟩ = some (.slice aA an ac) := (blk_cell (blk_below Xg3 hB) 15).trans rfl
    by_cases hlt : k < an
    · obtain ⟨ad, eA, hc⟩ := (hS2.below hB).at_ k hlt
      subst eA
      have hlk : k < ss.length := by rw [hS2.len]; exact hlt
      have hle : ∀ qs : List P3, PFs qs (ownB apl bpl awt bwt (ofP au av ahd) (ofP bu bv bhd) t ++ seenB (ss.take k) rs t) → qs.length * 12 + 12 ≤ 140737488355328 := fun qs h => ps_bound h (ownB_le _ _ _ _ _ _ _) hlt hn
      have HLE := Aside0.mk hle
      have HST := Aside0.mk (seenB_step ss rs t k hlk)
      have ks0 := hSH.lo k hlk
      have ks1 := hSH.hi k hlk
      generalize ss.getD k default = s at hc HST ks0 ks1
      have hc : At wo (ad.add (k * 5)) [.int .i64 s.ki, .int .i64 s.id, .int .i64 s.x, .int .i64 s.y, .int .i64 s.hd] := hc
      have hk2 : (k : Int) < (an : Int) := Int.ofNat_lt.mpr hlt
      have hk0 : (0 : Int) ≤ k := Int.natCast_nonneg k
      clear hle
      go_wp2_with (first
        | ((with_reducible refine gate_dst (N := 62) rfl ?_); refine wpList_load_at rfl 55 (.tmp 61) rfl _ rfl [.int .i64 s.ki, .int .i64 s.id, .int .i64 s.x, .int .i64 s.y, .int .i64 s.hd] _ Try.underlying55 rfl (by kernel_rfl) hc ?_)
        | ((with_reducible refine gate_dst (N := 9) rfl ?_); refine box_event ?hg (N := 9) ?hd (cs := #[.int .i64 0, .int .i64 0, .int .i64 0, .int .i64 0, .int .i64 0]) (t := 55) ?hr ?_; (case hd => rfl); (case hg => rfl); (case hr => first | (go_simp; done) | (go_simp; rfl)); intro g9 eg9 w5 Xg9 Bg9; have hg9 : wo.heap.size ≤ g9 := Nat.le_of_eq eg9.symm; clear eg9)
        | ((with_reducible refine gate_store (t := 55) (p := 9) rfl ?_); refine wpList_store_blk rfl 55 (.tmp 9) (.tmp 62) rfl g9 [.int .i64 s.ki, .int .i64 s.id, .int .i64 s.x, .int .i64 s.y, .int .i64 s.hd] rfl rfl 55 _ Xg9 (by kernel_rfl) rfl rfl ?_; intro w6 Xs hb6 hk6 hz6; have hBr := hb6 _ _ Bg9 hg9; have hB := below_step hB hBr; have hown := pw_own_below hown hBr; clear hb6 hk6 Xg9 Bg9; have Xg9 := Xs; clear Xs; have cg9_0 : w6.cell? ⟨g9, 0, none⟩ = some (.int .i64 s.ki) := (blk_cell Xg9 0).trans rfl; have cg9_1 : w6.cell? ⟨g9, 1, none⟩ = some (.int .i64 s.id) := (blk_cell Xg9 1).trans rfl; have cg9_2 : w6.cell? ⟨g9, 2, none⟩ = some (.int .i64 s.x) := (blk_cell Xg9 2).trans rfl; have cg9_3 : w6.cell? ⟨g9, 3, none⟩ = some (.int .i64 s.y) := (blk_cell Xg9 3).trans rfl; have cg9_4 : w6.cell? ⟨g9, 4, none⟩ = some (.int .i64 s.hd) := (blk_cell Xg9 4).trans rfl; have cg4_15 : w6.cell? ⟨g4, 15, none⟩ = some (.slice bA bn bc) := (blk_cell (blk_below Xg4 hB) 15).trans rfl))
      go_loopw [7, 10, 11] (fun v d j wi => ∃ (m : Nat) (b : Bool) (ps : List P3), m ≤ bn ∧ j = .int .i64 m ∧ d = .bool b ∧ Aside0 (OwnP wi w2.heap.size v ps) ∧ Aside0 (Below w2.heap.size w2 wi) ∧ Aside0 (wi.heap[g9]? = some (.cells #[.int .i64 s.ki, .int .i64 s.id, .int .i64 s.x, .int .i64 s.y, .int .i64 s.hd] 55 (0, 0))) ∧ Aside0 (b = false → Apart s rs m ∧ PFs ps (ownB apl bpl awt bwt (ofP au av ahd) (ofP bu bv bhd) t ++ seenB (ss.take k) rs t)) ∧ Aside0 (b = true → PFs ps ((ownB apl bpl awt bwt (ofP au av ahd) (ofP bu bv bhd) t ++ seenB (ss.take k) rs t) ++ hits s rs t))) (fun _ _ j _ => bn - (intOf j).toNat)
      case atStart => exact ⟨0, false, ps, Nat.zero_le _, rfl, rfl, ⟨hown⟩, ⟨hB⟩, ⟨Xg9⟩, ⟨fun _ => ⟨Apart.zero _ _, HP.out⟩⟩, ⟨fun h => by cases h⟩⟩
      case round =>
        clear hown hB Xg9 HP cg9_0 cg9_1 cg9_2 cg9_3 cg9_4 cg4_15 cg3_15
        obtain ⟨m, b, ps, hmb, rfl, rfl, HW, HB, HX, HF, HT⟩ := hrel
        have hown := HW.out
        have hB := HB.out
        have Xg9 := HX.out
        clear HB HX HW
        obtain ⟨wi, rfl⟩ : ∃ wi, wi = wr := ⟨_, rfl⟩
        have cg4_15 : wi.cell? ⟨g4, 15, none⟩ = some (.slice bA bn bc) := (blk_cell (blk_below Xg4 hB) 15).trans rfl
        by_cases hlm : m < bn
        · have hm2 : (m : Int) < (bn : Int) := Int.ofNat_lt.mpr hlm
          have hm0 : (0 : Int) ≤ m := Int.natCast_nonneg m
          cases b with
          | true =>
            have HPN := Aside0.mk (HT.out rfl)
            clear HT HF
            go_wp2_with fail
            go_roundw
            case rel => exact ⟨k + 1, _, by omega, by go_num, ⟨hown⟩, ⟨by rw [HST.out, ← List.append_assoc]; exact HPN.out⟩, ⟨hB⟩⟩
            case measure => simp [intOf]; omega
          | false =>
            obtain ⟨HA, HP⟩ := HF.out rfl
            have HA := Aside0.mk HA
            have HP := Aside0.mk HP
            clear HF HT
            have hle := HLE.out ps HP.out
            obtain ⟨bd, eB, hd⟩ := (hR2.below hB).at_ m hlm
            subst eB
            have hlr : m < rs.length := by rw [hR2.len]; exact hlm
            have kr0 := hRH.lo m hlr
            have kr1 := hRH.hi m hlr
            obtain ⟨r, hr⟩ : ∃ r, rs.getD m default = r := ⟨_, rfl⟩
            rw [hr] at hd kr0 kr1
            have HR := Aside0.mk hr
            clear hr
            have hd : At wi (bd.add (m * 5)) [.int .i64 r.ki, .int .i64 r.id, .int .i64 r.x, .int .i64 r.y, .int .i64 r.hd] := hd
            by_cases h4 : s.ki = r.ki
            · have e4 : (r.ki == s.ki) = true := beq_iff_eq.2 h4.symm
              by_cases h5 : s.id = r.id
              · have e5 : (r.id == s.id) = true := beq_iff_eq.2 h5.symm
                have HM := Aside0.mk (hits_some (t := t) HA.out hlr (by rw [HR.out]; exact meets_yes h4 h5))
                rw [HR.out] at HM
                clear h4 h5
                go_wp2_with (first
                  | ((with_reducible refine gate_dst (N := 78) rfl ?_); refine wpList_load_at rfl 55 (.tmp 77) rfl _ rfl [.int .i64 r.ki, .int .i64 r.id, .int .i64 r.x, .int .i64 r.y, .int .i64 r.hd] _ Try.underlying55 rfl (by kernel_rfl) hd ?_)
                  | ((with_reducible refine gate_dst (N := 12) rfl ?_); refine box_event ?hg (N := 12) ?hd (cs := #[.int .i64 0, .int .i64 0, .int .i64 0, .int .i64 0, .int .i64 0]) (t := 55) ?hr ?_; (case hd => rfl); (case hg => rfl); (case hr => first | (go_simp; done) | (go_simp; rfl)); intro g12 eg12 w15 Xg12 Bg12; have hg12 : wi.heap.size ≤ g12 := Nat.le_of_eq eg12.symm; have n12 : g9 ≠ g12 := (by have := blk_lt Xg9; omega); clear eg12)
                  | ((with_reducible refine gate_store (t := 55) (p := 12) rfl ?_); refine wpList_store_blk rfl 55 (.tmp 12) (.tmp 78) rfl g12 [.int .i64 r.ki, .int .i64 r.id, .int .i64 r.x, .int .i64 r.y, .int .i64 r.hd] rfl rfl 55 _ Xg12 (by kernel_rfl) rfl rfl ?_; intro w16 Xs hb6 hk6 hz6; have hBr := hb6 _ _ Bg12 hg12; have hB := below_step hB hBr; have hown := pw_own_below hown hBr; have Xg9 := blk_below Xg9 hBr; have hsz := hBr.size; clear hb6 hk6 Xg12 Bg12 hBr; have Xg12 := Xs; clear Xs; have cg9_0 : w16.cell? ⟨g9, 0, none⟩ = some (.int .i64 s.ki) := (blk_cell Xg9 0).trans rfl; have cg9_1 : w16.cell? ⟨g9, 1, none⟩ = some (.int .i64 s.id) := (blk_cell Xg9 1).trans rfl; have cg9_2 : w16.cell? ⟨g9, 2, none⟩ = some (.int .i64 s.x) := (blk_cell Xg9 2).trans rfl; have cg9_3 : w16.cell? ⟨g9, 3, none⟩ = some (.int .i64 s.y) := (blk_cell Xg9 3).trans rfl; have cg9_4 : w16.cell? ⟨g9, 4, none⟩ = some (.int .i64 s.hd) := (blk_cell Xg9 4).trans rfl; have cg12_0 : w16.cell? ⟨g12, 0, none⟩ = some (.int .i64 r.ki) := (blk_cell Xg12 0).trans rfl; have cg12_1 : w16.cell? ⟨g12, 1, none⟩ = some (.int .i64 r.id) := (blk_cell Xg12 1).trans rfl; have cg12_2 : w16.cell? ⟨g12, 2, none⟩ = some (.int .i64 r.x) := (blk_cell Xg12 2).trans rfl; have cg12_3 : w16.cell? ⟨g12, 3, none⟩ = some (.int .i64 r.y) := (blk_cell Xg12 3).trans rfl; have cg12_4 : w16.cell? ⟨g12, 4, none⟩ = some (.int .i64 r.hd) := (blk_cell Xg12 4).trans rfl))
                refine start_ (n := 16) (S := fun w' => w'.cell? ⟨g9, 2, none⟩ = some (.int .i64 s.x) ∧ w'.cell? ⟨g9, 3, none⟩ = some (.int .i64 s.y) ∧ w'.cell? ⟨g9, 4, none⟩ = some (.int .i64 s.hd) ∧ w'.cell? ⟨g12, 2, none⟩ = some (.int .i64 r.x) ∧ w'.cell? ⟨g12, 3, none⟩ = some (.int .i64 r.y) ∧ w'.cell? ⟨g12, 4, none⟩ = some (.int .i64 r.hd)) (ds := [14]) #[false, false, false, false, false, false, false, false, false, false, false, false, false, false, false, false] (by kernel_rfl) rfl rfl ⟨cg9_2, cg9_3, cg9_4, cg12_2, cg12_3, cg12_4⟩ (fun hHeld => ?_)
                refine pure_ (i := 0) (N := some 91) (v := ?_) (a' := ?_) #[true, false, false, false, false, false, false, false, false, false, false, false, false, false, false, false] rfl rfl (by kernel_rfl) (fun _ _ _ h => h) (Or.inl ⟨by rfl, ?_⟩) ?_ ?_
                rotate_left
                · intro w'
                  go_simp
                  with_reducible rfl
                rotate_left
                · simp only [Act.put, List.setIfInBounds_toArray, List.set_cons_zero, List.set_cons_succ, i64_w, i32_w]
                  rfl
                refine pure_ (i := 1) (N := some 92) (v := ?_) (a' := ?_) #[true, true, false, false, false, false, false, false, false, false, false, false, false, false, false, false] rfl rfl (by kernel_rfl) (fun _ _ _ h => h) (Or.inl ⟨by rfl, ?_⟩) ?_ ?_
                rotate_left
                · intro w'
                  go_simp
                  with_reducible rfl
                rotate_left
                · simp only [Act.put, List.setIfInBounds_toArray, List.set_cons_zero, List.set_cons_succ, i64_w, i32_w]
                  rfl
                refine pure_ (i := 3) (N := some 94) (v := ?_) (a' := ?_) #[true, true, false, true, false, false, false, false, false, false, false, false, false, false, false, false] rfl rfl (by kernel_rfl) (fun _ _ _ h => h) (Or.inl ⟨by rfl, ?_⟩) ?_ ?_
                rotate_left
                · intro w'
                  go_simp
                  with_reducible rfl
                rotate_left
                · simp only [Act.put, List.setIfInBounds_toArray, List.set_cons_zero, List.set_cons_succ, i64_w, i32_w]
                  rfl
                refine pure_ (i := 6) (N := some 97) (v := ?_) (a' := ?_) #[true, true, false, true, false, false, true, false, false, false, false, false, false, false, false, false] rfl rfl (by kernel_rfl) (fun _ _ _ h => h) (Or.inl ⟨by rfl, ?_⟩) ?_ ?_
                rotate_left
                · intro w'
                  go_simp
                  with_reducible rfl
                rotate_left
                · simp only [Act.put, List.setIfInBounds_toArray, List.set_cons_zero, List.set_cons_succ, i64_w, i32_w]
                  rfl
                refine pure_ (i := 8) (N := some 99) (v := ?_) (a' := ?_) #[true, true, false, true, false, false, true, false, true, false, false, false, false, false, false, false] rfl rfl (by kernel_rfl) (fun _ _ _ h => h) (Or.inl ⟨by rfl, ?_⟩) ?_ ?_
                rotate_left
                · intro w'
                  go_simp
                  with_reducible rfl
                rotate_left
                · simp only [Act.put, List.setIfInBounds_toArray, List.set_cons_zero, List.set_cons_succ, i64_w, i32_w]
                  rfl
                refine pure_ (i := 11) (N := some 102) (v := ?_) (a' := ?_) #[true, true, false, true, false, false, true, false, true, false, false, true, false, false, false, false] rfl rfl (by kernel_rfl) (fun _ _ _ h => h) (Or.inl ⟨by rfl, ?_⟩) ?_ ?_
                rotate_left
                · intro w'
                  go_simp
                  with_reducible rfl
                rotate_left
                · simp only [Act.put, List.setIfInBounds_toArray, List.set_cons_zero, List.set_cons_succ, i64_w, i32_w]
                  rfl
                refine take_ (i := 2) (N := some 93) (v := ?_) (a' := ?_) #[true, true, true, true, false, false, true, false, true, false, false, true, false, false, false, false] rfl rfl (by kernel_rfl) (fun _ _ _ h => h) (Or.inl ⟨by rfl, ?_⟩) hHeld ?_ ?_
                rotate_left
                · rintro w' ⟨s0, s1, s2, s3, s4, s5⟩
                  go_simp
                  with_reducible rfl
                rotate_left
                · simp only [Act.put, List.setIfInBounds_toArray, List.set_cons_zero, List.set_cons_succ, i64_w, i32_w]
                  rfl
                refine take_ (i := 4) (N := some 95) (v := ?_) (a' := ?_) #[true, true, true, true, true, false, true, false, true, false, false, true, false, false, false, false] rfl rfl (by kernel_rfl) (fun _ _ _ h => h) (Or.inl ⟨by rfl, ?_⟩) hHeld ?_ ?_
                rotate_left
                · rintro w' ⟨s0, s1, s2, s3, s4, s5⟩
                  go_simp
                  with_reducible rfl
                rotate_left
                · simp only [Act.put, List.setIfInBounds_toArray, List.set_cons_zero, List.set_cons_succ, i64_w, i32_w]
                  rfl
                refine take_ (i := 7) (N := some 98) (v := ?_) (a' := ?_) #[true, true, true, true, true, false, true, true, true, false, false, true, false, false, false, false] rfl rfl (by kernel_rfl) (fun _ _ _ h => h) (Or.inl ⟨by rfl, ?_⟩) hHeld ?_ ?_
                rotate_left
                · rintro w' ⟨s0, s1, s2, s3, s4, s5⟩
                  go_simp
                  with_reducible rfl
                rotate_left
                · simp only [Act.put, List.setIfInBounds_toArray, List.set_cons_zero, List.set_cons_succ, i64_w, i32_w]
                  rfl
                refine take_ (i := 9) (N := some 100) (v := ?_) (a' := ?_) #[true, true, true, true, true, false, true, true, true, true, false, true, false, false, false, false] rfl rfl (by kernel_rfl) (fun _ _ _ h => h) (Or.inl ⟨by rfl, ?_⟩) hHeld ?_ ?_
                rotate_left
                · rintro w' ⟨s0, s1, s2, s3, s4, s5⟩
                  go_simp
                  with_reducible rfl
                rotate_left
                · simp only [Act.put, List.setIfInBounds_toArray, List.set_cons_zero, List.set_cons_succ, i64_w, i32_w]
                  rfl
                refine one_ (i := 5) (N := some 96) #[true, true, true, true, true, true, true, true, true, true, false, true, false, false, false, false] rfl rfl (by kernel_rfl) (by decide) (fun K hK => ?_)
                refine goes_ Try.func21 (by kernel_rfl) rfl _ (by rfl) rfl rfl (by simp only [List.map_toArray, List.map_cons, List.map_nil]; rfl) ?_
                refine (refof_calls s.x s.y s.hd (by first | exact kA0 | exact kB0 | exact ks0 | exact kr0) (by first | exact kA1 | exact kB1 | exact ks1 | exact kr1) _).mono ?_
                rintro e w8 ⟨p1, q1, r1, hp1, hq1, hr1', rfl, hb1⟩
                refine ⟨_, rfl, ?_⟩
                have hB := below_step (below_drew1 hB) hb1
                have hown := pw_own_below (own_drew hown) hb1
                have Xg9' := blk_below (blk_drew Xg9) hb1
                refine hK.out _ _ ⟨pw_cell_below hb1 (hHeld.1), pw_cell_below hb1 (hHeld.2.1), pw_cell_below hb1 (hHeld.2.2.1), pw_cell_below hb1 (hHeld.2.2.2.1), pw_cell_below hb1 (hHeld.2.2.2.2.1), pw_cell_below hb1 (hHeld.2.2.2.2.2)⟩ (fun hHeld => ?_)
                clear hK K
                refine norm_ (a' := ?_) ?_ ?_
                rotate_left
                · show Act.put _ (some 96) _ = _
                  simp only [Act.put, List.setIfInBounds_toArray, List.set_cons_zero, List.set_cons_succ, i64_w, i32_w]
                  rfl
                refine one_ (i := 10) (N := some 101) #[true, true, true, true, true, true, true, true, true, true, true, true, false, false, false, false] rfl rfl (by kernel_rfl) (by decide) (fun K hK => ?_)
                refine goes_ Try.func21 (by kernel_rfl) rfl _ (by rfl) rfl rfl (by simp only [List.map_toArray, List.map_cons, List.map_nil]; rfl) ?_
                refine (refof_calls r.x r.y r.hd (by first | exact kA0 | exact kB0 | exact ks0 | exact kr0) (by first | exact kA1 | exact kB1 | exact ks1 | exact kr1) _).mono ?_
                rintro e w8 ⟨p2, q2, r2, hp2, hq2, hr2', rfl, hb2⟩
                refine ⟨_, rfl, ?_⟩
                have hB := below_step hB hb2
                have hown := pw_own_below hown hb2
                have Xg9' := blk_below Xg9' hb2
                refine hK.out _ _ ⟨pw_cell_below hb2 (hHeld.1), pw_cell_below hb2 (hHeld.2.1), pw_cell_below hb2 (hHeld.2.2.1), pw_cell_below hb2 (hHeld.2.2.2.1), pw_cell_below hb2 (hHeld.2.2.2.2.1), pw_cell_below hb2 (hHeld.2.2.2.2.2)⟩ (fun hHeld => ?_)
                clear hK K
                refine norm_ (a' := ?_) ?_ ?_
                rotate_left
                · show Act.put _ (some 101) _ = _
                  simp only [Act.put, List.setIfInBounds_toArray, List.set_cons_zero, List.set_cons_succ, i64_w, i32_w]
                  rfl
                refine one_ (i := 12) (N := some 103) #[true, true, true, true, true, true, true, true, true, true, true, true, true, false, false, false] rfl rfl (by kernel_rfl) (by decide) (fun K hK => ?_)
                refine goes_ Try.func13 (by kernel_rfl) rfl _ (by rfl) rfl rfl (by simp only [List.map_toArray, List.map_cons, List.map_nil]; rfl) ?_
                refine (refmix_calls p1 q1 r1 p2 q2 r2 t _).mono ?_
                rintro e w8 ⟨x3, y3, z3, hx3, hy3, hz3, rfl, hb3⟩
                refine ⟨_, rfl, ?_⟩
                have hB := below_step hB hb3
                have hown := pw_own_below hown hb3
                have Xg9' := blk_below Xg9' hb3
                refine hK.out _ _ ⟨pw_cell_below hb3 (hHeld.1), pw_cell_below hb3 (hHeld.2.1), pw_cell_below hb3 (hHeld.2.2.1), pw_cell_below hb3 (hHeld.2.2.2.1), pw_cell_below hb3 (hHeld.2.2.2.2.1), pw_cell_below hb3 (hHeld.2.2.2.2.2)⟩ (fun hHeld => ?_)
                clear hK K
                refine norm_ (a' := ?_) ?_ ?_
                rotate_left
                · show Act.put _ (some 103) _ = _
                  simp only [Act.put, List.setIfInBounds_toArray, List.set_cons_zero, List.set_cons_succ, i64_w, i32_w]
                  rfl
                refine one_ (i := 13) (N := some 104) #[true, true, true, true, true, true, true, true, true, true, true, true, true, true, false, false] rfl rfl (by kernel_rfl) (by decide) (fun K hK => ?_)
                refine value_ (w1 := ?_) (v := ?_) (by rfl) rfl ?_ ?_
                rotate_left 2
                · go_simp
                  constructor
                  · rfl
                  · rfl
                refine hK.out _ _ ⟨pw_cell_below (below_alloc (Below.refl _ _) _) (hHeld.1), pw_cell_below (below_alloc (Below.refl _ _) _) (hHeld.2.1), pw_cell_below (below_alloc (Below.refl _ _) _) (hHeld.2.2.1), pw_cell_below (below_alloc (Below.refl _ _) _) (hHeld.2.2.2.1), pw_cell_below (below_alloc (Below.refl _ _) _) (hHeld.2.2.2.2.1), pw_cell_below (below_alloc (Below.refl _ _) _) (hHeld.2.2.2.2.2)⟩ (fun hHeld => ?_)
                clear hK K
                refine norm_ (a' := ?_) ?_ ?_
                rotate_left
                · show Act.put _ (some 104) _ = _
                  simp only [Act.put, List.setIfInBounds_toArray, List.set_cons_zero, List.set_cons_succ, i64_w, i32_w]
                  rfl
                refine last_ (i := 14) (N := some 105) #[true, true, true, true, true, true, true, true, true, true, true, true, true, true, true, false] rfl rfl (by kernel_rfl) (by decide) (fun K hK => ?_)
                refine step_append_cells (w0 := w2) w2.heap.size (by rfl) (.tmp 91) (.tmp 104) 51 24 (.agg #[.float .f32 0, .float .f32 0, .float .f32 0]) 3 12 rfl Try.underlying51 (by kernel_rfl) rfl (by decide) (by decide) _ ps.length (rowP ps) [.float .f32 x3, .float .f32 y3, .float .f32 z3] rfl rfl rfl (by simp [Value.oneCell']) hown hB hB.size (by omega) ?_
                have N9 := own_ne hown Xg9' (by decide)
                intro v9 w9 hown9 hB9 hg9' hat9
                refine hK.out _ _ ?_
                clear hK K
                refine norm_ (a' := ?_) ?_ ?_
                rotate_left
                · show Act.put _ (some 105) _ = _
                  simp only [Act.put, List.setIfInBounds_toArray, List.set_cons_zero, List.set_cons_succ, i64_w, i32_w]
                  rfl
                refine pure_ (i := 15) (N := some 7) (v := ?_) (a' := ?_) #[true, true, true, true, true, true, true, true, true, true, true, true, true, true, true, true] rfl rfl (by kernel_rfl) (fun _ _ _ h => h) (Or.inl ⟨by rfl, ?_⟩) ?_ ?_
                rotate_left
                · intro w'
                  go_simp
                  with_reducible rfl
                rotate_left
                · simp only [Act.put, List.setIfInBounds_toArray, List.set_cons_zero, List.set_cons_succ, i64_w, i32_w]
                  rfl
                refine done_ (by kernel_rfl) ?_

                have hown := own_more hown9
                have HPN := Aside0.mk (HP.out.snoc (pf_mix (p := s.p) (q := r.p) hx3 hy3 hz3 hp1 hq1 hr1' hp2 hq2 hr2'))
                have hB := hB9
                have Xg9 := blk_grown Xg9' hg9' N9
                clear hown9 hB9 hx3 hy3 hz3 hp1 hq1 hp2 hq2
                go_wp2
                go_roundw
                case rel => exact ⟨m + 1, true, _, by omega, by go_num, rfl, ⟨hown⟩, ⟨hB⟩, ⟨Xg9⟩, ⟨fun h => by cases h⟩, ⟨fun _ => by rw [HM.out]; exact HPN.out⟩⟩
                case measure => simp [intOf]; omega
              · have e5 : (r.id == s.id) = false := beq_eq_false_iff_ne.2 (fun e => h5 e.symm)
                have HA2 := HA.out.step (by rw [HR.out]; exact meets_no2 h5)
                have HA2 := Aside0.mk HA2
                clear h4 h5
                go_wp2_with (first
                  | ((with_reducible refine gate_dst (N := 78) rfl ?_); refine wpList_load_at rfl 55 (.tmp 77) rfl _ rfl [.int .i64 r.ki, .int .i64 r.id, .int .i64 r.x, .int .i64 r.y, .int .i64 r.hd] _ Try.underlying55 rfl (by kernel_rfl) hd ?_)
                  | ((with_reducible refine gate_dst (N := 12) rfl ?_); refine box_event ?hg (N := 12) ?hd (cs := #[.int .i64 0, .int .i64 0, .int .i64 0, .int .i64 0, .int .i64 0]) (t := 55) ?hr ?_; (case hd => rfl); (case hg => rfl); (case hr => first | (go_simp; done) | (go_simp; rfl)); intro g12 eg12 w15 Xg12 Bg12; have hg12 : wi.heap.size ≤ g12 := Nat.le_of_eq eg12.symm; have n12 : g9 ≠ g12 := (by have := blk_lt Xg9; omega); clear eg12)
                  | ((with_reducible refine gate_store (t := 55) (p := 12) rfl ?_); refine wpList_store_blk rfl 55 (.tmp 12) (.tmp 78) rfl g12 [.int .i64 r.ki, .int .i64 r.id, .int .i64 r.x, .int .i64 r.y, .int .i64 r.hd] rfl rfl 55 _ Xg12 (by kernel_rfl) rfl rfl ?_; intro w16 Xs hb6 hk6 hz6; have hBr := hb6 _ _ Bg12 hg12; have hB := below_step hB hBr; have hown := pw_own_below hown hBr; have Xg9 := blk_below Xg9 hBr; have hsz := hBr.size; clear hb6 hk6 Xg12 Bg12 hBr; have Xg12 := Xs; clear Xs; have cg9_0 : w16.cell? ⟨g9, 0, none⟩ = some (.int .i64 s.ki) := (blk_cell Xg9 0).trans rfl; have cg9_1 : w16.cell? ⟨g9, 1, none⟩ = some (.int .i64 s.id) := (blk_cell Xg9 1).trans rfl; have cg9_2 : w16.cell? ⟨g9, 2, none⟩ = some (.int .i64 s.x) := (blk_cell Xg9 2).trans rfl; have cg9_3 : w16.cell? ⟨g9, 3, none⟩ = some (.int .i64 s.y) := (blk_cell Xg9 3).trans rfl; have cg9_4 : w16.cell? ⟨g9, 4, none⟩ = some (.int .i64 s.hd) := (blk_cell Xg9 4).trans rfl; have cg12_0 : w16.cell? ⟨g12, 0, none⟩ = some (.int .i64 r.ki) := (blk_cell Xg12 0).trans rfl; have cg12_1 : w16.cell? ⟨g12, 1, none⟩ = some (.int .i64 r.id) := (blk_cell Xg12 1).trans rfl; have cg12_2 : w16.cell? ⟨g12, 2, none⟩ = some (.int .i64 r.x) := (blk_cell Xg12 2).trans rfl; have cg12_3 : w16.cell? ⟨g12, 3, none⟩ = some (.int .i64 r.y) := (blk_cell Xg12 3).trans rfl; have cg12_4 : w16.cell? ⟨g12, 4, none⟩ = some (.int .i64 r.hd) := (blk_cell Xg12 4).trans rfl))
                go_roundw
                case rel => exact ⟨m + 1, false, _, by omega, by go_num, rfl, ⟨hown⟩, ⟨hB⟩, ⟨Xg9⟩, ⟨fun _ => ⟨HA2.out, HP.out⟩⟩, ⟨fun h => by cases h⟩⟩
                case measure => simp [intOf]; omega
            · have e4 : (r.ki == s.ki) = false := beq_eq_false_iff_ne.2 (fun e => h4 e.symm)
              have HA2 := Aside0.mk (HA.out.step (by rw [HR.out]; exact meets_no1 h4))
              clear h4
              go_wp2_with (first
                  | ((with_reducible refine gate_dst (N := 78) rfl ?_); refine wpList_load_at rfl 55 (.tmp 77) rfl _ rfl [.int .i64 r.ki, .int .i64 r.id, .int .i64 r.x, .int .i64 r.y, .int .i64 r.hd] _ Try.underlying55 rfl (by kernel_rfl) hd ?_)
                  | ((with_reducible refine gate_dst (N := 12) rfl ?_); refine box_event ?hg (N := 12) ?hd (cs := #[.int .i64 0, .int .i64 0, .int .i64 0, .int .i64 0, .int .i64 0]) (t := 55) ?hr ?_; (case hd => rfl); (case hg => rfl); (case hr => first | (go_simp; done) | (go_simp; rfl)); intro g12 eg12 w15 Xg12 Bg12; have hg12 : wi.heap.size ≤ g12 := Nat.le_of_eq eg12.symm; have n12 : g9 ≠ g12 := (by have := blk_lt Xg9; omega); clear eg12)
                  | ((with_reducible refine gate_store (t := 55) (p := 12) rfl ?_); refine wpList_store_blk rfl 55 (.tmp 12) (.tmp 78) rfl g12 [.int .i64 r.ki, .int .i64 r.id, .int .i64 r.x, .int .i64 r.y, .int .i64 r.hd] rfl rfl 55 _ Xg12 (by kernel_rfl) rfl rfl ?_; intro w16 Xs hb6 hk6 hz6; have hBr := hb6 _ _ Bg12 hg12; have hB := below_step hB hBr; have hown := pw_own_below hown hBr; have Xg9 := blk_below Xg9 hBr; have hsz := hBr.size; clear hb6 hk6 Xg12 Bg12 hBr; have Xg12 := Xs; clear Xs; have cg9_0 : w16.cell? ⟨g9, 0, none⟩ = some (.int .i64 s.ki) := (blk_cell Xg9 0).trans rfl; have cg9_1 : w16.cell? ⟨g9, 1, none⟩ = some (.int .i64 s.id) := (blk_cell Xg9 1).trans rfl; have cg9_2 : w16.cell? ⟨g9, 2, none⟩ = some (.int .i64 s.x) := (blk_cell Xg9 2).trans rfl; have cg9_3 : w16.cell? ⟨g9, 3, none⟩ = some (.int .i64 s.y) := (blk_cell Xg9 3).trans rfl; have cg9_4 : w16.cell? ⟨g9, 4, none⟩ = some (.int .i64 s.hd) := (blk_cell Xg9 4).trans rfl; have cg12_0 : w16.cell? ⟨g12, 0, none⟩ = some (.int .i64 r.ki) := (blk_cell Xg12 0).trans rfl; have cg12_1 : w16.cell? ⟨g12, 1, none⟩ = some (.int .i64 r.id) := (blk_cell Xg12 1).trans rfl; have cg12_2 : w16.cell? ⟨g12, 2, none⟩ = some (.int .i64 r.x) := (blk_cell Xg12 2).trans rfl; have cg12_3 : w16.cell? ⟨g12, 3, none⟩ = some (.int .i64 r.y) := (blk_cell Xg12 3).trans rfl; have cg12_4 : w16.cell? ⟨g12, 4, none⟩ = some (.int .i64 r.hd) := (blk_cell Xg12 4).trans rfl))
              go_roundw
              case rel => exact ⟨m + 1, false, _, by omega, by go_num, rfl, ⟨hown⟩, ⟨hB⟩, ⟨Xg9⟩, ⟨fun _ => ⟨HA2.out, HP.out⟩⟩, ⟨fun h => by cases h⟩⟩
              case measure => simp [intOf]; omega
        · obtain rfl : m = bn := by omega
          have HPN : Aside0 (PFs ps ((ownB apl bpl awt bwt (ofP au av ahd) (ofP bu bv bhd) t ++ seenB (ss.take k) rs t) ++ hits s rs t)) := ⟨by
            cases b with
            | true => exact HT.out rfl
            | false =>
              obtain ⟨HA, HP⟩ := HF.out rfl
              rw [hits_none (t := t) (by rw [hR2.len]; exact HA), List.append_nil]
              exact HP⟩
          clear HF HT
          go_wp2_with fail
          go_roundw
          case rel => exact ⟨k + 1, _, by omega, by go_num, ⟨hown⟩, ⟨by rw [HST.out, ← List.append_assoc]; exact HPN.out⟩, ⟨hB⟩⟩
          case measure => simp [intOf]; omega
    · obtain rfl : k = an := by omega
      obtain ⟨A, c, rfl, _, _⟩ := own_prow hown
      have hHP : PFs ps (ownB apl bpl awt bwt (ofP au av ahd) (ofP bu bv bhd) t ++ seenB ss rs t) := by
        have := HP.out
        rwa [List.take_of_length_le (Nat.le_of_eq hS2.len)] at this
      have HP := Aside0.mk hHP
      clear hHP
      go_wp2_with fail
      go_ret
      exact ⟨A, c, ps, rfl, own_less hown hB0.size, HP.out, below_step hB0 hB⟩

set_option maxHeartbeats 8000000 in
set_option maxRecDepth 100000 in
theorem refbetween_calls_2 (atk apl au av avx avy ahd ahe aen aam aco awt asp asc : Int) (anm : ByteArray) (aA : Option Addr) (an ac : Nat) (btk bpl bu bv bvx bvy bhd bhe ben bam bco bwt bsp bsc : Int) (bnm : ByteArray) (bA : Option Addr) (bn bc : Nat) (t : Nat) (w : World) (ss rs : List S5) (hS : SRow w aA an ss) (hR : SRow w bA bn rs) (hn : an * 12 + 12 ≤ 140737488355328) (hm : bn ≤ 9223372036854775807) (kA0 : -9223372036854775808 ≤ ahd) (kA1 : ahd ≤ 9223372036854775807) (kB0 : -9223372036854775808 ≤ bhd) (kB1 : bhd ≤ 9223372036854775807) (hSH : Hds ss) (hRH : Hds rs) (h1 : apl = bpl) (h2 : ¬ awt ≤ 0) : Calls Try.prog 27 #[.agg #[.int .u64 atk, .int .i64 apl, .string anm, .int .i64 au, .int .i64 av, .int .i64 avx, .int .i64 avy, .int .i64 ahd, .int .i64 ahe, .int .i64 aen, .int .i64 aam, .int .i64 aco, .int .i64 awt, .int .i64 asp, .int .i64 asc, .slice aA an ac], .agg #[.int .u64 btk, .int .i64 bpl, .string bnm, .int .i64 bu, .int .i64 bv, .int .i64 bvx, .int .i64 bvy, .int .i64 bhd, .int .i64 bhe, .int .i64 ben, .int .i64 bam, .int .i64 bco, .int .i64 bwt, .int .i64 bsp, .int .i64 bsc, .slice bA bn bc], .float .f32 t] w fun e w' => ∃ A c ps, e = .returned (.slice A ps.length c) ∧ OwnP w' w.heap.size (.slice A ps.length c) ps ∧ PFs ps (ownB apl bpl awt bwt (ofP au av ahd) (ofP bu bv bhd) t ++ seenB ss rs t) ∧ Below w.heap.size w w' := by
  have hu47 := Try.underlying47
  have hu40 := Try.underlying40
  have hu38 := Try.underlying38
  have hu55 := Try.underlying55
  have hu45 := Try.underlying45
  have hu51 := Try.underlying51
  have hu24 := Try.underlying24
  have hu3 := Try.underlying3
  have hnn : (an : Int) ≤ 9223372036854775807 := by omega
  have hmm : (bn : Int) ≤ 9223372036854775807 := by omega
  have e1 : (apl == bpl) = true := beq_iff_eq.2 h1
  have d2 : decide (awt ≤ 0) = false := decide_eq_false h2
  have h2' : 0 < awt := by omega
  have HO := Aside0.mk (show ownB apl bpl awt bwt (ofP au av ahd) (ofP bu bv bhd) t = [] from if_neg (fun h => h2 h.2.1))
  clear h1
  go_enter Try.func27, Try.ntmps27
  go_wp2_with (first
        | ((try (refine gate_guard (by rfl) ?_; dsimp only)); refine wpList_fl _ rfl _ _ _ _ _ rfl (by decide) _ _ _ _ rfl rfl (by first | assumption | exact Fe.refl _) (by first | assumption | exact Fe.refl _) ?_; intro z nd hz)
        | ((try (refine gate_guard (by rfl) ?_; dsimp only)); refine wpList_flc _ rfl _ _ _ _ _ rfl (by decide) _ _ _ _ rfl rfl (by first | assumption | exact Fe.refl _) (by first | assumption | exact Fe.refl _) ?_)
        | ((with_reducible refine gate_dst (N := 3) rfl ?_); refine box_event ?hg (N := 3) ?hd (cs := #[.int .u64 atk, .int .i64 apl, .string anm, .int .i64 au, .int .i64 av, .int .i64 avx, .int .i64 avy, .int .i64 ahd, .int .i64 ahe, .int .i64 aen, .int .i64 aam, .int .i64 aco, .int .i64 awt, .int .i64 asp, .int .i64 asc, .slice aA an ac]) (t := 47) ?hr ?_; (case hd => rfl); (case hg => rfl); (case hr => first | (go_simp; done) | (go_simp; rfl)); intro g3 eg3 w1 Xg3 Bg3; clear eg3)
        | ((with_reducible refine gate_dst (N := 4) rfl ?_); refine box_event ?hg (N := 4) ?hd (cs := #[.int .u64 btk, .int .i64 bpl, .string bnm, .int .i64 bu, .int .i64 bv, .int .i64 bvx, .int .i64 bvy, .int .i64 bhd, .int .i64 bhe, .int .i64 ben, .int .i64 bam, .int .i64 bco, .int .i64 bwt, .int .i64 bsp, .int .i64 bsc, .slice bA bn bc]) (t := 47) ?hr ?_; (case hd => rfl); (case hg => rfl); (case hr => first | (go_simp; done) | (go_simp; rfl)); intro g4 eg4 w2 Xg4 Bg4; have Xg3 := blk_below Xg3 Bg4; have hB0 := below_step Bg3 Bg4; have hS2 := (hS.below Bg3).below Bg4; have hR2 := (hR.below Bg3).below Bg4; have hB := Below.refl w2.heap.size w2; have lg3 := blk_lt Xg3; have lg4 := blk_lt Xg4; clear eg4 Bg3 Bg4 hS hR; have cg3_1 : w2.cell? ⟨g3, 1, none⟩ = some (.int .i64 apl) := (blk_cell Xg3 1).trans rfl; have cg3_3 : w2.cell? ⟨g3, 3, none⟩ = some (.int .i64 au) := (blk_cell Xg3 3).trans rfl; have cg3_4 : w2.cell? ⟨g3, 4, none⟩ = some (.int .i64 av) := (blk_cell Xg3 4).trans rfl; have cg3_7 : w2.cell? ⟨g3, 7, none⟩ = some (.int .i64 ahd) := (blk_cell Xg3 7).trans rfl; have cg3_12 : w2.cell? ⟨g3, 12, none⟩ = some (.int .i64 awt) := (blk_cell Xg3 12).trans rfl; have cg3_15 : w2.cell? ⟨g3, 15, none⟩ = some (.slice aA an ac) := (blk_cell Xg3 15).trans rfl; have cg4_1 : w2.cell? ⟨g4, 1, none⟩ = some (.int .i64 bpl) := (blk_cell Xg4 1).trans rfl; have cg4_3 : w2.cell? ⟨g4, 3, none⟩ = some (.int .i64 bu) := (blk_cell Xg4 3).trans rfl; have cg4_4 : w2.cell? ⟨g4, 4, none⟩ = some (.int .i64 bv) := (blk_cell Xg4 4).trans rfl; have cg4_7 : w2.cell? ⟨g4, 7, none⟩ = some (.int .i64 bhd) := (blk_cell Xg4 7).trans rfl; have cg4_12 : w2.cell? ⟨g4, 12, none⟩ = some (.int .i64 bwt) := (blk_cell Xg4 12).trans rfl; have cg4_15 : w2.cell? ⟨g4, 15, none⟩ = some (.slice bA bn bc) := (blk_cell Xg4 15).trans rfl))
  have hown : OwnP w2 w2.heap.size (.slice none 0 0) [] := own_nil _ _ _ _
  have HPF := Aside0.mk (PFs.refl [])
  go_wp2_with fail
  go_loopw [7, 8] (fun v i wr => ∃ (k : Nat) (ps : List P3), k ≤ an ∧ i = .int .i64 k ∧ Aside0 (OwnP wr w2.heap.size v ps) ∧ Aside0 (PFs ps (ownB apl bpl awt bwt (ofP au av ahd) (ofP bu bv bhd) t ++ seenB (ss.take k) rs t)) ∧ Aside0 (Below w2.heap.size w2 wr)) (fun _ i _ => an - (intOf i).toNat)
  case atStart => exact ⟨0, _, Nat.zero_le _, rfl, ⟨hown⟩, ⟨by rw [List.take_zero, seenB_nil, List.append_nil, HO.out]; exact HPF.out⟩, ⟨hB⟩⟩
  case round =>
    clear hown HPF hB cg3_1 cg3_3 cg3_4 cg3_7 cg3_12 cg3_15 cg4_1 cg4_3 cg4_4 cg4_7 cg4_12 cg4_15
    obtain ⟨k, ps, hk, rfl, HW, HP, HB⟩ := hrel
    have hown := HW.out
    have hB := HB.out
    clear HW HB
    obtain ⟨vo, rfl⟩ : ∃ vo, vo = u7 := ⟨_, rfl⟩
    obtain ⟨wo, rfl⟩ : ∃ wo, wo = wr := ⟨_, rfl⟩
    have cg3_15 : wo.cell? ⟨g3, 15, none⟩ = some (.slice aA an ac) := (blk_cell (blk_below Xg3 hB) 15).trans rfl
    by_cases hlt : k < an
    · obtain ⟨ad, eA, hc⟩ := (hS2.below hB).at_ k hlt
      subst eA
      have hlk : k < ss.length := by rw [hS2.len]; exact hlt
      have hle : ∀ qs : List P3, PFs qs (ownB apl bpl awt bwt (ofP au av ahd) (ofP bu bv bhd) t ++ seenB (ss.take k) rs t) → qs.length * 12 + 12 ≤ 140737488355328 := fun qs h => ps_bound h (ownB_le _ _ _ _ _ _ _) hlt hn
      have HLE := Aside0.mk hle
      have HST := Aside0.mk (seenB_step ss rs t k hlk)
      have ks0 := hSH.lo k hlk
      have ks1 := hSH.hi k hlk
      generalize ss.getD k default = s at hc HST ks0 ks1
      have hc : At wo (ad.add (k * 5)) [.int .i64 s.ki, .int .i64 s.id, .int .i64 s.x, .int .i64 s.y, .int .i64 s.hd] := hc
      have hk2 : (k : Int) < (an : Int) := Int.ofNat_lt.mpr hlt
      have hk0 : (0 : Int) ≤ k := Int.natCast_nonneg k
      clear hle
      go_wp2_with (first
        | ((with_reducible refine gate_dst (N := 62) rfl ?_); refine wpList_load_at rfl 55 (.tmp 61) rfl _ rfl [.int .i64 s.ki, .int .i64 s.id, .int .i64 s.x, .int .i64 s.y, .int .i64 s.hd] _ Try.underlying55 rfl (by kernel_rfl) hc ?_)
        | ((with_reducible refine gate_dst (N := 9) rfl ?_); refine box_event ?hg (N := 9) ?hd (cs := #[.int .i64 0, .int .i64 0, .int .i64 0, .int .i64 0, .int .i64 0]) (t := 55) ?hr ?_; (case hd => rfl); (case hg => rfl); (case hr => first | (go_simp; done) | (go_simp; rfl)); intro g9 eg9 w5 Xg9 Bg9; have hg9 : wo.heap.size ≤ g9 := Nat.le_of_eq eg9.symm; clear eg9)
        | ((with_reducible refine gate_store (t := 55) (p := 9) rfl ?_); refine wpList_store_blk rfl 55 (.tmp 9) (.tmp 62) rfl g9 [.int .i64 s.ki, .int .i64 s.id, .int .i64 s.x, .int .i64 s.y, .int .i64 s.hd] rfl rfl 55 _ Xg9 (by kernel_rfl) rfl rfl ?_; intro w6 Xs hb6 hk6 hz6; have hBr := hb6 _ _ Bg9 hg9; have hB := below_step hB hBr; have hown := pw_own_below hown hBr; clear hb6 hk6 Xg9 Bg9; have Xg9 := Xs; clear Xs; have cg9_0 : w6.cell? ⟨g9, 0, none⟩ = some (.int .i64 s.ki) := (blk_cell Xg9 0).trans rfl; have cg9_1 : w6.cell? ⟨g9, 1, none⟩ = some (.int .i64 s.id) := (blk_cell Xg9 1).trans rfl; have cg9_2 : w6.cell? ⟨g9, 2, none⟩ = some (.int .i64 s.x) := (blk_cell Xg9 2).trans rfl; have cg9_3 : w6.cell? ⟨g9, 3, none⟩ = some (.int .i64 s.y) := (blk_cell Xg9 3).trans rfl; have cg9_4 : w6.cell? ⟨g9, 4, none⟩ = some (.int .i64 s.hd) := (blk_cell Xg9 4).trans rfl; have cg4_15 : w6.cell? ⟨g4, 15, none⟩ = some (.slice bA bn bc) := (blk_cell (blk_below Xg4 hB) 15).trans rfl))
      go_loopw [7, 10, 11] (fun v d j wi => ∃ (m : Nat) (b : Bool) (ps : List P3), m ≤ bn ∧ j = .int .i64 m ∧ d = .bool b ∧ Aside0 (OwnP wi w2.heap.size v ps) ∧ Aside0 (Below w2.heap.size w2 wi) ∧ Aside0 (wi.heap[g9]? = some (.cells #[.int .i64 s.ki, .int .i64 s.id, .int .i64 s.x, .int .i64 s.y, .int .i64 s.hd] 55 (0, 0))) ∧ Aside0 (b = false → Apart s rs m ∧ PFs ps (ownB apl bpl awt bwt (ofP au av ahd) (ofP bu bv bhd) t ++ seenB (ss.take k) rs t)) ∧ Aside0 (b = true → PFs ps ((ownB apl bpl awt bwt (ofP au av ahd) (ofP bu bv bhd) t ++ seenB (ss.take k) rs t) ++ hits s rs t))) (fun _ _ j _ => bn - (intOf j).toNat)
      case atStart => exact ⟨0, false, ps, Nat.zero_le _, rfl, rfl, ⟨hown⟩, ⟨hB⟩, ⟨Xg9⟩, ⟨fun _ => ⟨Apart.zero _ _, HP.out⟩⟩, ⟨fun h => by cases h⟩⟩
      case round =>
        clear hown hB Xg9 HP cg9_0 cg9_1 cg9_2 cg9_3 cg9_4 cg4_15 cg3_15
        obtain ⟨m, b, ps, hmb, rfl, rfl, HW, HB, HX, HF, HT⟩ := hrel
        have hown := HW.out
        have hB := HB.out
        have Xg9 := HX.out
        clear HB HX HW
        obtain ⟨wi, rfl⟩ : ∃ wi, wi = wr := ⟨_, rfl⟩
        have cg4_15 : wi.cell? ⟨g4, 15, none⟩ = some (.slice bA bn bc) := (blk_cell (blk_below Xg4 hB) 15).trans rfl
        by_cases hlm : m < bn
        · have hm2 : (m : Int) < (bn : Int) := Int.ofNat_lt.mpr hlm
          have hm0 : (0 : Int) ≤ m := Int.natCast_nonneg m
          cases b with
          | true =>
            have HPN := Aside0.mk (HT.out rfl)
            clear HT HF
            go_wp2_with fail
            go_roundw
            case rel => exact ⟨k + 1, _, by omega, by go_num, ⟨hown⟩, ⟨by rw [HST.out, ← List.append_assoc]; exact HPN.out⟩, ⟨hB⟩⟩
            case measure => simp [intOf]; omega
          | false =>
            obtain ⟨HA, HP⟩ := HF.out rfl
            have HA := Aside0.mk HA
            have HP := Aside0.mk HP
            clear HF HT
            have hle := HLE.out ps HP.out
            obtain ⟨bd, eB, hd⟩ := (hR2.below hB).at_ m hlm
            subst eB
            have hlr : m < rs.length := by rw [hR2.len]; exact hlm
            have kr0 := hRH.lo m hlr
            have kr1 := hRH.hi m hlr
            obtain ⟨r, hr⟩ : ∃ r, rs.getD m default = r := ⟨_, rfl⟩
            rw [hr] at hd kr0 kr1
            have HR := Aside0.mk hr
            clear hr
            have hd : At wi (bd.add (m * 5)) [.int .i64 r.ki, .int .i64 r.id, .int .i64 r.x, .int .i64 r.y, .int .i64 r.hd] := hd
            by_cases h4 : s.ki = r.ki
            · have e4 : (r.ki == s.ki) = true := beq_iff_eq.2 h4.symm
              by_cases h5 : s.id = r.id
              · have e5 : (r.id == s.id) = true := beq_iff_eq.2 h5.symm
                have HM := Aside0.mk (hits_some (t := t) HA.out hlr (by rw [HR.out]; exact meets_yes h4 h5))
                rw [HR.out] at HM
                clear h4 h5
                go_wp2_with (first
                  | ((with_reducible refine gate_dst (N := 78) rfl ?_); refine wpList_load_at rfl 55 (.tmp 77) rfl _ rfl [.int .i64 r.ki, .int .i64 r.id, .int .i64 r.x, .int .i64 r.y, .int .i64 r.hd] _ Try.underlying55 rfl (by kernel_rfl) hd ?_)
                  | ((with_reducible refine gate_dst (N := 12) rfl ?_); refine box_event ?hg (N := 12) ?hd (cs := #[.int .i64 0, .int .i64 0, .int .i64 0, .int .i64 0, .int .i64 0]) (t := 55) ?hr ?_; (case hd => rfl); (case hg => rfl); (case hr => first | (go_simp; done) | (go_simp; rfl)); intro g12 eg12 w15 Xg12 Bg12; have hg12 : wi.heap.size ≤ g12 := Nat.le_of_eq eg12.symm; have n12 : g9 ≠ g12 := (by have := blk_lt Xg9; omega); clear eg12)
                  | ((with_reducible refine gate_store (t := 55) (p := 12) rfl ?_); refine wpList_store_blk rfl 55 (.tmp 12) (.tmp 78) rfl g12 [.int .i64 r.ki, .int .i64 r.id, .int .i64 r.x, .int .i64 r.y, .int .i64 r.hd] rfl rfl 55 _ Xg12 (by kernel_rfl) rfl rfl ?_; intro w16 Xs hb6 hk6 hz6; have hBr := hb6 _ _ Bg12 hg12; have hB := below_step hB hBr; have hown := pw_own_below hown hBr; have Xg9 := blk_below Xg9 hBr; have hsz := hBr.size; clear hb6 hk6 Xg12 Bg12 hBr; have Xg12 := Xs; clear Xs; have cg9_0 : w16.cell? ⟨g9, 0, none⟩ = some (.int .i64 s.ki) := (blk_cell Xg9 0).trans rfl; have cg9_1 : w16.cell? ⟨g9, 1, none⟩ = some (.int .i64 s.id) := (blk_cell Xg9 1).trans rfl; have cg9_2 : w16.cell? ⟨g9, 2, none⟩ = some (.int .i64 s.x) := (blk_cell Xg9 2).trans rfl; have cg9_3 : w16.cell? ⟨g9, 3, none⟩ = some (.int .i64 s.y) := (blk_cell Xg9 3).trans rfl; have cg9_4 : w16.cell? ⟨g9, 4, none⟩ = some (.int .i64 s.hd) := (blk_cell Xg9 4).trans rfl; have cg12_0 : w16.cell? ⟨g12, 0, none⟩ = some (.int .i64 r.ki) := (blk_cell Xg12 0).trans rfl; have cg12_1 : w16.cell? ⟨g12, 1, none⟩ = some (.int .i64 r.id) := (blk_cell Xg12 1).trans rfl; have cg12_2 : w16.cell? ⟨g12, 2, none⟩ = some (.int .i64 r.x) := (blk_cell Xg12 2).trans rfl; have cg12_3 : w16.cell? ⟨g12, 3, none⟩ = some (.int .i64 r.y) := (blk_cell Xg12 3).trans rfl; have cg12_4 : w16.cell? ⟨g12, 4, none⟩ = some (.int .i64 r.hd) := (blk_cell Xg12 4).trans rfl))
                refine start_ (n := 16) (S := fun w' => w'.cell? ⟨g9, 2, none⟩ = some (.int .i64 s.x) ∧ w'.cell? ⟨g9, 3, none⟩ = some (.int .i64 s.y) ∧ w'.cell? ⟨g9, 4, none⟩ = some (.int .i64 s.hd) ∧ w'.cell? ⟨g12, 2, none⟩ = some (.int .i64 r.x) ∧ w'.cell? ⟨g12, 3, none⟩ = some (.int .i64 r.y) ∧ w'.cell? ⟨g12, 4, none⟩ = some (.int .i64 r.hd)) (ds := [14]) #[false, false, false, false, false, false, false, false, false, false, false, false, false, false, false, false] (by kernel_rfl) rfl rfl ⟨cg9_2, cg9_3, cg9_4, cg12_2, cg12_3, cg12_4⟩ (fun hHeld => ?_)
                refine pure_ (i := 0) (N := some 91) (v := ?_) (a' := ?_) #[true, false, false, false, false, false, false, false, false, false, false, false, false, false, false, false] rfl rfl (by kernel_rfl) (fun _ _ _ h => h) (Or.inl ⟨by rfl, ?_⟩) ?_ ?_
                rotate_left
                · intro w'
                  go_simp
                  with_reducible rfl
                rotate_left
                · simp only [Act.put, List.setIfInBounds_toArray, List.set_cons_zero, List.set_cons_succ, i64_w, i32_w]
                  rfl
                refine pure_ (i := 1) (N := some 92) (v := ?_) (a' := ?_) #[true, true, false, false, false, false, false, false, false, false, false, false, false, false, false, false] rfl rfl (by kernel_rfl) (fun _ _ _ h => h) (Or.inl ⟨by rfl, ?_⟩) ?_ ?_
                rotate_left
                · intro w'
                  go_simp
                  with_reducible rfl
                rotate_left
                · simp only [Act.put, List.setIfInBounds_toArray, List.set_cons_zero, List.set_cons_succ, i64_w, i32_w]
                  rfl
                refine pure_ (i := 3) (N := some 94) (v := ?_) (a' := ?_) #[true, true, false, true, false, false, false, false, false, false, false, false, false, false, false, false] rfl rfl (by kernel_rfl) (fun _ _ _ h => h) (Or.inl ⟨by rfl, ?_⟩) ?_ ?_
                rotate_left
                · intro w'
                  go_simp
                  with_reducible rfl
                rotate_left
                · simp only [Act.put, List.setIfInBounds_toArray, List.set_cons_zero, List.set_cons_succ, i64_w, i32_w]
                  rfl
                refine pure_ (i := 6) (N := some 97) (v := ?_) (a' := ?_) #[true, true, false, true, false, false, true, false, false, false, false, false, false, false, false, false] rfl rfl (by kernel_rfl) (fun _ _ _ h => h) (Or.inl ⟨by rfl, ?_⟩) ?_ ?_
                rotate_left
                · intro w'
                  go_simp
                  with_reducible rfl
                rotate_left
                · simp only [Act.put, List.setIfInBounds_toArray, List.set_cons_zero, List.set_cons_succ, i64_w, i32_w]
                  rfl
                refine pure_ (i := 8) (N := some 99) (v := ?_) (a' := ?_) #[true, true, false, true, false, false, true, false, true, false, false, false, false, false, false, false] rfl rfl (by kernel_rfl) (fun _ _ _ h => h) (Or.inl ⟨by rfl, ?_⟩) ?_ ?_
                rotate_left
                · intro w'
                  go_simp
                  with_reducible rfl
                rotate_left
                · simp only [Act.put, List.setIfInBounds_toArray, List.set_cons_zero, List.set_cons_succ, i64_w, i32_w]
                  rfl
                refine pure_ (i := 11) (N := some 102) (v := ?_) (a' := ?_) #[true, true, false, true, false, false, true, false, true, false, false, true, false, false, false, false] rfl rfl (by kernel_rfl) (fun _ _ _ h => h) (Or.inl ⟨by rfl, ?_⟩) ?_ ?_
                rotate_left
                · intro w'
                  go_simp
                  with_reducible rfl
                rotate_left
                · simp only [Act.put, List.setIfInBounds_toArray, List.set_cons_zero, List.set_cons_succ, i64_w, i32_w]
                  rfl
                refine take_ (i := 2) (N := some 93) (v := ?_) (a' := ?_) #[true, true, true, true, false, false, true, false, true, false, false, true, false, false, false, false] rfl rfl (by kernel_rfl) (fun _ _ _ h => h) (Or.inl ⟨by rfl, ?_⟩) hHeld ?_ ?_
                rotate_left
                · rintro w' ⟨s0, s1, s2, s3, s4, s5⟩
                  go_simp
                  with_reducible rfl
                rotate_left
                · simp only [Act.put, List.setIfInBounds_toArray, List.set_cons_zero, List.set_cons_succ, i64_w, i32_w]
                  rfl
                refine take_ (i := 4) (N := some 95) (v := ?_) (a' := ?_) #[true, true, true, true, true, false, true, false, true, false, false, true, false, false, false, false] rfl rfl (by kernel_rfl) (fun _ _ _ h => h) (Or.inl ⟨by rfl, ?_⟩) hHeld ?_ ?_
                rotate_left
                · rintro w' ⟨s0, s1, s2, s3, s4, s5⟩
                  go_simp
                  with_reducible rfl
                rotate_left
                · simp only [Act.put, List.setIfInBounds_toArray, List.set_cons_zero, List.set_cons_succ, i64_w, i32_w]
                  rfl
                refine take_ (i := 7) (N := some 98) (v := ?_) (a' := ?_) #[true, true, true, true, true, false, true, true, true, false, false, true, false, false, false, false] rfl rfl (by kernel_rfl) (fun _ _ _ h => h) (Or.inl ⟨by rfl, ?_⟩) hHeld ?_ ?_
                rotate_left
                · rintro w' ⟨s0, s1, s2, s3, s4, s5⟩
                  go_simp
                  with_reducible rfl
                rotate_left
                · simp only [Act.put, List.setIfInBounds_toArray, List.set_cons_zero, List.set_cons_succ, i64_w, i32_w]
                  rfl
                refine take_ (i := 9) (N := some 100) (v := ?_) (a' := ?_) #[true, true, true, true, true, false, true, true, true, true, false, true, false, false, false, false] rfl rfl (by kernel_rfl) (fun _ _ _ h => h) (Or.inl ⟨by rfl, ?_⟩) hHeld ?_ ?_
                rotate_left
                · rintro w' ⟨s0, s1, s2, s3, s4, s5⟩
                  go_simp
                  with_reducible rfl
                rotate_left
                · simp only [Act.put, List.setIfInBounds_toArray, List.set_cons_zero, List.set_cons_succ, i64_w, i32_w]
                  rfl
                refine one_ (i := 5) (N := some 96) #[true, true, true, true, true, true, true, true, true, true, false, true, false, false, false, false] rfl rfl (by kernel_rfl) (by decide) (fun K hK => ?_)
                refine goes_ Try.func21 (by kernel_rfl) rfl _ (by rfl) rfl rfl (by simp only [List.map_toArray, List.map_cons, List.map_nil]; rfl) ?_
                refine (refof_calls s.x s.y s.hd (by first | exact kA0 | exact kB0 | exact ks0 | exact kr0) (by first | exact kA1 | exact kB1 | exact ks1 | exact kr1) _).mono ?_
                rintro e w8 ⟨p1, q1, r1, hp1, hq1, hr1', rfl, hb1⟩
                refine ⟨_, rfl, ?_⟩
                have hB := below_step (below_drew1 hB) hb1
                have hown := pw_own_below (own_drew hown) hb1
                have Xg9' := blk_below (blk_drew Xg9) hb1
                refine hK.out _ _ ⟨pw_cell_below hb1 (hHeld.1), pw_cell_below hb1 (hHeld.2.1), pw_cell_below hb1 (hHeld.2.2.1), pw_cell_below hb1 (hHeld.2.2.2.1), pw_cell_below hb1 (hHeld.2.2.2.2.1), pw_cell_below hb1 (hHeld.2.2.2.2.2)⟩ (fun hHeld => ?_)
                clear hK K
                refine norm_ (a' := ?_) ?_ ?_
                rotate_left
                · show Act.put _ (some 96) _ = _
                  simp only [Act.put, List.setIfInBounds_toArray, List.set_cons_zero, List.set_cons_succ, i64_w, i32_w]
                  rfl
                refine one_ (i := 10) (N := some 101) #[true, true, true, true, true, true, true, true, true, true, true, true, false, false, false, false] rfl rfl (by kernel_rfl) (by decide) (fun K hK => ?_)
                refine goes_ Try.func21 (by kernel_rfl) rfl _ (by rfl) rfl rfl (by simp only [List.map_toArray, List.map_cons, List.map_nil]; rfl) ?_
                refine (refof_calls r.x r.y r.hd (by first | exact kA0 | exact kB0 | exact ks0 | exact kr0) (by first | exact kA1 | exact kB1 | exact ks1 | exact kr1) _).mono ?_
                rintro e w8 ⟨p2, q2, r2, hp2, hq2, hr2', rfl, hb2⟩
                refine ⟨_, rfl, ?_⟩
                have hB := below_step hB hb2
                have hown := pw_own_below hown hb2
                have Xg9' := blk_below Xg9' hb2
                refine hK.out _ _ ⟨pw_cell_below hb2 (hHeld.1), pw_cell_below hb2 (hHeld.2.1), pw_cell_below hb2 (hHeld.2.2.1), pw_cell_below hb2 (hHeld.2.2.2.1), pw_cell_below hb2 (hHeld.2.2.2.2.1), pw_cell_below hb2 (hHeld.2.2.2.2.2)⟩ (fun hHeld => ?_)
                clear hK K
                refine norm_ (a' := ?_) ?_ ?_
                rotate_left
                · show Act.put _ (some 101) _ = _
                  simp only [Act.put, List.setIfInBounds_toArray, List.set_cons_zero, List.set_cons_succ, i64_w, i32_w]
                  rfl
                refine one_ (i := 12) (N := some 103) #[true, true, true, true, true, true, true, true, true, true, true, true, true, false, false, false] rfl rfl (by kernel_rfl) (by decide) (fun K hK => ?_)
                refine goes_ Try.func13 (by kernel_rfl) rfl _ (by rfl) rfl rfl (by simp only [List.map_toArray, List.map_cons, List.map_nil]; rfl) ?_
                refine (refmix_calls p1 q1 r1 p2 q2 r2 t _).mono ?_
                rintro e w8 ⟨x3, y3, z3, hx3, hy3, hz3, rfl, hb3⟩
                refine ⟨_, rfl, ?_⟩
                have hB := below_step hB hb3
                have hown := pw_own_below hown hb3
                have Xg9' := blk_below Xg9' hb3
                refine hK.out _ _ ⟨pw_cell_below hb3 (hHeld.1), pw_cell_below hb3 (hHeld.2.1), pw_cell_below hb3 (hHeld.2.2.1), pw_cell_below hb3 (hHeld.2.2.2.1), pw_cell_below hb3 (hHeld.2.2.2.2.1), pw_cell_below hb3 (hHeld.2.2.2.2.2)⟩ (fun hHeld => ?_)
                clear hK K
                refine norm_ (a' := ?_) ?_ ?_
                rotate_left
                · show Act.put _ (some 103) _ = _
                  simp only [Act.put, List.setIfInBounds_toArray, List.set_cons_zero, List.set_cons_succ, i64_w, i32_w]
                  rfl
                refine one_ (i := 13) (N := some 104) #[true, true, true, true, true, true, true, true, true, true, true, true, true, true, false, false] rfl rfl (by kernel_rfl) (by decide) (fun K hK => ?_)
                refine value_ (w1 := ?_) (v := ?_) (by rfl) rfl ?_ ?_
                rotate_left 2
                · go_simp
                  constructor
                  · rfl
                  · rfl
                refine hK.out _ _ ⟨pw_cell_below (below_alloc (Below.refl _ _) _) (hHeld.1), pw_cell_below (below_alloc (Below.refl _ _) _) (hHeld.2.1), pw_cell_below (below_alloc (Below.refl _ _) _) (hHeld.2.2.1), pw_cell_below (below_alloc (Below.refl _ _) _) (hHeld.2.2.2.1), pw_cell_below (below_alloc (Below.refl _ _) _) (hHeld.2.2.2.2.1), pw_cell_below (below_alloc (Below.refl _ _) _) (hHeld.2.2.2.2.2)⟩ (fun hHeld => ?_)
                clear hK K
                refine norm_ (a' := ?_) ?_ ?_
                rotate_left
                · show Act.put _ (some 104) _ = _
                  simp only [Act.put, List.setIfInBounds_toArray, List.set_cons_zero, List.set_cons_succ, i64_w, i32_w]
                  rfl
                refine last_ (i := 14) (N := some 105) #[true, true, true, true, true, true, true, true, true, true, true, true, true, true, true, false] rfl rfl (by kernel_rfl) (by decide) (fun K hK => ?_)
                refine step_append_cells (w0 := w2) w2.heap.size (by rfl) (.tmp 91) (.tmp 104) 51 24 (.agg #[.float .f32 0, .float .f32 0, .float .f32 0]) 3 12 rfl Try.underlying51 (by kernel_rfl) rfl (by decide) (by decide) _ ps.length (rowP ps) [.float .f32 x3, .float .f32 y3, .float .f32 z3] rfl rfl rfl (by simp [Value.oneCell']) hown hB hB.size (by omega) ?_
                have N9 := own_ne hown Xg9' (by decide)
                intro v9 w9 hown9 hB9 hg9' hat9
                refine hK.out _ _ ?_
                clear hK K
                refine norm_ (a' := ?_) ?_ ?_
                rotate_left
                · show Act.put _ (some 105) _ = _
                  simp only [Act.put, List.setIfInBounds_toArray, List.set_cons_zero, List.set_cons_succ, i64_w, i32_w]
                  rfl
                refine pure_ (i := 15) (N := some 7) (v := ?_) (a' := ?_) #[true, true, true, true, true, true, true, true, true, true, true, true, true, true, true, true] rfl rfl (by kernel_rfl) (fun _ _ _ h => h) (Or.inl ⟨by rfl, ?_⟩) ?_ ?_
                rotate_left
                · intro w'
                  go_simp
                  with_reducible rfl
                rotate_left
                · simp only [Act.put, List.setIfInBounds_toArray, List.set_cons_zero, List.set_cons_succ, i64_w, i32_w]
                  rfl
                refine done_ (by kernel_rfl) ?_

                have hown := own_more hown9
                have HPN := Aside0.mk (HP.out.snoc (pf_mix (p := s.p) (q := r.p) hx3 hy3 hz3 hp1 hq1 hr1' hp2 hq2 hr2'))
                have hB := hB9
                have Xg9 := blk_grown Xg9' hg9' N9
                clear hown9 hB9 hx3 hy3 hz3 hp1 hq1 hp2 hq2
                go_wp2
                go_roundw
                case rel => exact ⟨m + 1, true, _, by omega, by go_num, rfl, ⟨hown⟩, ⟨hB⟩, ⟨Xg9⟩, ⟨fun h => by cases h⟩, ⟨fun _ => by rw [HM.out]; exact HPN.out⟩⟩
                case measure => simp [intOf]; omega
              · have e5 : (r.id == s.id) = false := beq_eq_false_iff_ne.2 (fun e => h5 e.symm)
                have HA2 := HA.out.step (by rw [HR.out]; exact meets_no2 h5)
                have HA2 := Aside0.mk HA2
                clear h4 h5
                go_wp2_with (first
                  | ((with_reducible refine gate_dst (N := 78) rfl ?_); refine wpList_load_at rfl 55 (.tmp 77) rfl _ rfl [.int .i64 r.ki, .int .i64 r.id, .int .i64 r.x, .int .i64 r.y, .int .i64 r.hd] _ Try.underlying55 rfl (by kernel_rfl) hd ?_)
                  | ((with_reducible refine gate_dst (N := 12) rfl ?_); refine box_event ?hg (N := 12) ?hd (cs := #[.int .i64 0, .int .i64 0, .int .i64 0, .int .i64 0, .int .i64 0]) (t := 55) ?hr ?_; (case hd => rfl); (case hg => rfl); (case hr => first | (go_simp; done) | (go_simp; rfl)); intro g12 eg12 w15 Xg12 Bg12; have hg12 : wi.heap.size ≤ g12 := Nat.le_of_eq eg12.symm; have n12 : g9 ≠ g12 := (by have := blk_lt Xg9; omega); clear eg12)
                  | ((with_reducible refine gate_store (t := 55) (p := 12) rfl ?_); refine wpList_store_blk rfl 55 (.tmp 12) (.tmp 78) rfl g12 [.int .i64 r.ki, .int .i64 r.id, .int .i64 r.x, .int .i64 r.y, .int .i64 r.hd] rfl rfl 55 _ Xg12 (by kernel_rfl) rfl rfl ?_; intro w16 Xs hb6 hk6 hz6; have hBr := hb6 _ _ Bg12 hg12; have hB := below_step hB hBr; have hown := pw_own_below hown hBr; have Xg9 := blk_below Xg9 hBr; have hsz := hBr.size; clear hb6 hk6 Xg12 Bg12 hBr; have Xg12 := Xs; clear Xs; have cg9_0 : w16.cell? ⟨g9, 0, none⟩ = some (.int .i64 s.ki) := (blk_cell Xg9 0).trans rfl; have cg9_1 : w16.cell? ⟨g9, 1, none⟩ = some (.int .i64 s.id) := (blk_cell Xg9 1).trans rfl; have cg9_2 : w16.cell? ⟨g9, 2, none⟩ = some (.int .i64 s.x) := (blk_cell Xg9 2).trans rfl; have cg9_3 : w16.cell? ⟨g9, 3, none⟩ = some (.int .i64 s.y) := (blk_cell Xg9 3).trans rfl; have cg9_4 : w16.cell? ⟨g9, 4, none⟩ = some (.int .i64 s.hd) := (blk_cell Xg9 4).trans rfl; have cg12_0 : w16.cell? ⟨g12, 0, none⟩ = some (.int .i64 r.ki) := (blk_cell Xg12 0).trans rfl; have cg12_1 : w16.cell? ⟨g12, 1, none⟩ = some (.int .i64 r.id) := (blk_cell Xg12 1).trans rfl; have cg12_2 : w16.cell? ⟨g12, 2, none⟩ = some (.int .i64 r.x) := (blk_cell Xg12 2).trans rfl; have cg12_3 : w16.cell? ⟨g12, 3, none⟩ = some (.int .i64 r.y) := (blk_cell Xg12 3).trans rfl; have cg12_4 : w16.cell? ⟨g12, 4, none⟩ = some (.int .i64 r.hd) := (blk_cell Xg12 4).trans rfl))
                go_roundw
                case rel => exact ⟨m + 1, false, _, by omega, by go_num, rfl, ⟨hown⟩, ⟨hB⟩, ⟨Xg9⟩, ⟨fun _ => ⟨HA2.out, HP.out⟩⟩, ⟨fun h => by cases h⟩⟩
                case measure => simp [intOf]; omega
            · have e4 : (r.ki == s.ki) = false := beq_eq_false_iff_ne.2 (fun e => h4 e.symm)
              have HA2 := Aside0.mk (HA.out.step (by rw [HR.out]; exact meets_no1 h4))
              clear h4
              go_wp2_with (first
                  | ((with_reducible refine gate_dst (N := 78) rfl ?_); refine wpList_load_at rfl 55 (.tmp 77) rfl _ rfl [.int .i64 r.ki, .int .i64 r.id, .int .i64 r.x, .int .i64 r.y, .int .i64 r.hd] _ Try.underlying55 rfl (by kernel_rfl) hd ?_)
                  | ((with_reducible refine gate_dst (N := 12) rfl ?_); refine box_event ?hg (N := 12) ?hd (cs := #[.int .i64 0, .int .i64 0, .int .i64 0, .int .i64 0, .int .i64 0]) (t := 55) ?hr ?_; (case hd => rfl); (case hg => rfl); (case hr => first | (go_simp; done) | (go_simp; rfl)); intro g12 eg12 w15 Xg12 Bg12; have hg12 : wi.heap.size ≤ g12 := Nat.le_of_eq eg12.symm; have n12 : g9 ≠ g12 := (by have := blk_lt Xg9; omega); clear eg12)
                  | ((with_reducible refine gate_store (t := 55) (p := 12) rfl ?_); refine wpList_store_blk rfl 55 (.tmp 12) (.tmp 78) rfl g12 [.int .i64 r.ki, .int .i64 r.id, .int .i64 r.x, .int .i64 r.y, .int .i64 r.hd] rfl rfl 55 _ Xg12 (by kernel_rfl) rfl rfl ?_; intro w16 Xs hb6 hk6 hz6; have hBr := hb6 _ _ Bg12 hg12; have hB := below_step hB hBr; have hown := pw_own_below hown hBr; have Xg9 := blk_below Xg9 hBr; have hsz := hBr.size; clear hb6 hk6 Xg12 Bg12 hBr; have Xg12 := Xs; clear Xs; have cg9_0 : w16.cell? ⟨g9, 0, none⟩ = some (.int .i64 s.ki) := (blk_cell Xg9 0).trans rfl; have cg9_1 : w16.cell? ⟨g9, 1, none⟩ = some (.int .i64 s.id) := (blk_cell Xg9 1).trans rfl; have cg9_2 : w16.cell? ⟨g9, 2, none⟩ = some (.int .i64 s.x) := (blk_cell Xg9 2).trans rfl; have cg9_3 : w16.cell? ⟨g9, 3, none⟩ = some (.int .i64 s.y) := (blk_cell Xg9 3).trans rfl; have cg9_4 : w16.cell? ⟨g9, 4, none⟩ = some (.int .i64 s.hd) := (blk_cell Xg9 4).trans rfl; have cg12_0 : w16.cell? ⟨g12, 0, none⟩ = some (.int .i64 r.ki) := (blk_cell Xg12 0).trans rfl; have cg12_1 : w16.cell? ⟨g12, 1, none⟩ = some (.int .i64 r.id) := (blk_cell Xg12 1).trans rfl; have cg12_2 : w16.cell? ⟨g12, 2, none⟩ = some (.int .i64 r.x) := (blk_cell Xg12 2).trans rfl; have cg12_3 : w16.cell? ⟨g12, 3, none⟩ = some (.int .i64 r.y) := (blk_cell Xg12 3).trans rfl; have cg12_4 : w16.cell? ⟨g12, 4, none⟩ = some (.int .i64 r.hd) := (blk_cell Xg12 4).trans rfl))
              go_roundw
              case rel => exact ⟨m + 1, false, _, by omega, by go_num, rfl, ⟨hown⟩, ⟨hB⟩, ⟨Xg9⟩, ⟨fun _ => ⟨HA2.out, HP.out⟩⟩, ⟨fun h => by cases h⟩⟩
              case measure => simp [intOf]; omega
        · obtain rfl : m = bn := by omega
          have HPN : Aside0 (PFs ps ((ownB apl bpl awt bwt (ofP au av ahd) (ofP bu bv bhd) t ++ seenB (ss.take k) rs t) ++ hits s rs t)) := ⟨by
            cases b with
            | true => exact HT.out rfl
            | false =>
              obtain ⟨HA, HP⟩ := HF.out rfl
              rw [hits_none (t := t) (by rw [hR2.len]; exact HA), List.append_nil]
              exact HP⟩
          clear HF HT
          go_wp2_with fail
          go_roundw
          case rel => exact ⟨k + 1, _, by omega, by go_num, ⟨hown⟩, ⟨by rw [HST.out, ← List.append_assoc]; exact HPN.out⟩, ⟨hB⟩⟩
          case measure => simp [intOf]; omega
    · obtain rfl : k = an := by omega
      obtain ⟨A, c, rfl, _, _⟩ := own_prow hown
      have hHP : PFs ps (ownB apl bpl awt bwt (ofP au av ahd) (ofP bu bv bhd) t ++ seenB ss rs t) := by
        have := HP.out
        rwa [List.take_of_length_le (Nat.le_of_eq hS2.len)] at this
      have HP := Aside0.mk hHP
      clear hHP
      go_wp2_with fail
      go_ret
      exact ⟨A, c, ps, rfl, own_less hown hB0.size, HP.out, below_step hB0 hB⟩

set_option maxHeartbeats 8000000 in
set_option maxRecDepth 100000 in
theorem refbetween_calls_1 (atk apl au av avx avy ahd ahe aen aam aco awt asp asc : Int) (anm : ByteArray) (aA : Option Addr) (an ac : Nat) (btk bpl bu bv bvx bvy bhd bhe ben bam bco bwt bsp bsc : Int) (bnm : ByteArray) (bA : Option Addr) (bn bc : Nat) (t : Nat) (w : World) (ss rs : List S5) (hS : SRow w aA an ss) (hR : SRow w bA bn rs) (hn : an * 12 + 12 ≤ 140737488355328) (hm : bn ≤ 9223372036854775807) (kA0 : -9223372036854775808 ≤ ahd) (kA1 : ahd ≤ 9223372036854775807) (kB0 : -9223372036854775808 ≤ bhd) (kB1 : bhd ≤ 9223372036854775807) (hSH : Hds ss) (hRH : Hds rs) (h1 : ¬ apl = bpl) : Calls Try.prog 27 #[.agg #[.int .u64 atk, .int .i64 apl, .string anm, .int .i64 au, .int .i64 av, .int .i64 avx, .int .i64 avy, .int .i64 ahd, .int .i64 ahe, .int .i64 aen, .int .i64 aam, .int .i64 aco, .int .i64 awt, .int .i64 asp, .int .i64 asc, .slice aA an ac], .agg #[.int .u64 btk, .int .i64 bpl, .string bnm, .int .i64 bu, .int .i64 bv, .int .i64 bvx, .int .i64 bvy, .int .i64 bhd, .int .i64 bhe, .int .i64 ben, .int .i64 bam, .int .i64 bco, .int .i64 bwt, .int .i64 bsp, .int .i64 bsc, .slice bA bn bc], .float .f32 t] w fun e w' => ∃ A c ps, e = .returned (.slice A ps.length c) ∧ OwnP w' w.heap.size (.slice A ps.length c) ps ∧ PFs ps (ownB apl bpl awt bwt (ofP au av ahd) (ofP bu bv bhd) t ++ seenB ss rs t) ∧ Below w.heap.size w w' := by
  have hu47 := Try.underlying47
  have hu40 := Try.underlying40
  have hu38 := Try.underlying38
  have hu55 := Try.underlying55
  have hu45 := Try.underlying45
  have hu51 := Try.underlying51
  have hu24 := Try.underlying24
  have hu3 := Try.underlying3
  have hnn : (an : Int) ≤ 9223372036854775807 := by omega
  have hmm : (bn : Int) ≤ 9223372036854775807 := by omega
  have e1 : (apl == bpl) = false := beq_eq_false_iff_ne.2 h1
  have HO := Aside0.mk (show ownB apl bpl awt bwt (ofP au av ahd) (ofP bu bv bhd) t = [] from if_neg (fun h => h1 h.1))
  clear h1
  go_enter Try.func27, Try.ntmps27
  go_wp2_with (first
        | ((try (refine gate_guard (by rfl) ?_; dsimp only)); refine wpList_fl _ rfl _ _ _ _ _ rfl (by decide) _ _ _ _ rfl rfl (by first | assumption | exact Fe.refl _) (by first | assumption | exact Fe.refl _) ?_; intro z nd hz)
        | ((try (refine gate_guard (by rfl) ?_; dsimp only)); refine wpList_flc _ rfl _ _ _ _ _ rfl (by decide) _ _ _ _ rfl rfl (by first | assumption | exact Fe.refl _) (by first | assumption | exact Fe.refl _) ?_)
        | ((with_reducible refine gate_dst (N := 3) rfl ?_); refine box_event ?hg (N := 3) ?hd (cs := #[.int .u64 atk, .int .i64 apl, .string anm, .int .i64 au, .int .i64 av, .int .i64 avx, .int .i64 avy, .int .i64 ahd, .int .i64 ahe, .int .i64 aen, .int .i64 aam, .int .i64 aco, .int .i64 awt, .int .i64 asp, .int .i64 asc, .slice aA an ac]) (t := 47) ?hr ?_; (case hd => rfl); (case hg => rfl); (case hr => first | (go_simp; done) | (go_simp; rfl)); intro g3 eg3 w1 Xg3 Bg3; clear eg3)
        | ((with_reducible refine gate_dst (N := 4) rfl ?_); refine box_event ?hg (N := 4) ?hd (cs := #[.int .u64 btk, .int .i64 bpl, .string bnm, .int .i64 bu, .int .i64 bv, .int .i64 bvx, .int .i64 bvy, .int .i64 bhd, .int .i64 bhe, .int .i64 ben, .int .i64 bam, .int .i64 bco, .int .i64 bwt, .int .i64 bsp, .int .i64 bsc, .slice bA bn bc]) (t := 47) ?hr ?_; (case hd => rfl); (case hg => rfl); (case hr => first | (go_simp; done) | (go_simp; rfl)); intro g4 eg4 w2 Xg4 Bg4; have Xg3 := blk_below Xg3 Bg4; have hB0 := below_step Bg3 Bg4; have hS2 := (hS.below Bg3).below Bg4; have hR2 := (hR.below Bg3).below Bg4; have hB := Below.refl w2.heap.size w2; have lg3 := blk_lt Xg3; have lg4 := blk_lt Xg4; clear eg4 Bg3 Bg4 hS hR; have cg3_1 : w2.cell? ⟨g3, 1, none⟩ = some (.int .i64 apl) := (blk_cell Xg3 1).trans rfl; have cg3_3 : w2.cell? ⟨g3, 3, none⟩ = some (.int .i64 au) := (blk_cell Xg3 3).trans rfl; have cg3_4 : w2.cell? ⟨g3, 4, none⟩ = some (.int .i64 av) := (blk_cell Xg3 4).trans rfl; have cg3_7 : w2.cell? ⟨g3, 7, none⟩ = some (.int .i64 ahd) := (blk_cell Xg3 7).trans rfl; have cg3_12 : w2.cell? ⟨g3, 12, none⟩ = some (.int .i64 awt) := (blk_cell Xg3 12).trans rfl; have cg3_15 : w2.cell? ⟨g3, 15, none⟩ = some (.slice aA an ac) := (blk_cell Xg3 15).trans rfl; have cg4_1 : w2.cell? ⟨g4, 1, none⟩ = some (.int .i64 bpl) := (blk_cell Xg4 1).trans rfl; have cg4_3 : w2.cell? ⟨g4, 3, none⟩ = some (.int .i64 bu) := (blk_cell Xg4 3).trans rfl; have cg4_4 : w2.cell? ⟨g4, 4, none⟩ = some (.int .i64 bv) := (blk_cell Xg4 4).trans rfl; have cg4_7 : w2.cell? ⟨g4, 7, none⟩ = some (.int .i64 bhd) := (blk_cell Xg4 7).trans rfl; have cg4_12 : w2.cell? ⟨g4, 12, none⟩ = some (.int .i64 bwt) := (blk_cell Xg4 12).trans rfl; have cg4_15 : w2.cell? ⟨g4, 15, none⟩ = some (.slice bA bn bc) := (blk_cell Xg4 15).trans rfl))
  have hown : OwnP w2 w2.heap.size (.slice none 0 0) [] := own_nil _ _ _ _
  have HPF := Aside0.mk (PFs.refl [])
  go_wp2_with fail
  go_loopw [7, 8] (fun v i wr => ∃ (k : Nat) (ps : List P3), k ≤ an ∧ i = .int .i64 k ∧ Aside0 (OwnP wr w2.heap.size v ps) ∧ Aside0 (PFs ps (ownB apl bpl awt bwt (ofP au av ahd) (ofP bu bv bhd) t ++ seenB (ss.take k) rs t)) ∧ Aside0 (Below w2.heap.size w2 wr)) (fun _ i _ => an - (intOf i).toNat)
  case atStart => exact ⟨0, _, Nat.zero_le _, rfl, ⟨hown⟩, ⟨by rw [List.take_zero, seenB_nil, List.append_nil, HO.out]; exact HPF.out⟩, ⟨hB⟩⟩
  case round =>
    clear hown HPF hB cg3_1 cg3_3 cg3_4 cg3_7 cg3_12 cg3_15 cg4_1 cg4_3 cg4_4 cg4_7 cg4_12 cg4_15
    obtain ⟨k, ps, hk, rfl, HW, HP, HB⟩ := hrel
    have hown := HW.out
    have hB := HB.out
    clear HW HB
    obtain ⟨vo, rfl⟩ : ∃ vo, vo = u7 := ⟨_, rfl⟩
    obtain ⟨wo, rfl⟩ : ∃ wo, wo = wr := ⟨_, rfl⟩
    have cg3_15 : wo.cell? ⟨g3, 15, none⟩ = some (.slice aA an ac) := (blk_cell (blk_below Xg3 hB) 15).trans rfl
    by_cases hlt : k < an
    · obtain ⟨ad, eA, hc⟩ := (hS2.below hB).at_ k hlt
      subst eA
      have hlk : k < ss.length := by rw [hS2.len]; exact hlt
      have hle : ∀ qs : List P3, PFs qs (ownB apl bpl awt bwt (ofP au av ahd) (ofP bu bv bhd) t ++ seenB (ss.take k) rs t) → qs.length * 12 + 12 ≤ 140737488355328 := fun qs h => ps_bound h (ownB_le _ _ _ _ _ _ _) hlt hn
      have HLE := Aside0.mk hle
      have HST := Aside0.mk (seenB_step ss rs t k hlk)
      have ks0 := hSH.lo k hlk
      have ks1 := hSH.hi k hlk
      generalize ss.getD k default = s at hc HST ks0 ks1
      have hc : At wo (ad.add (k * 5)) [.int .i64 s.ki, .int .i64 s.id, .int .i64 s.x, .int .i64 s.y, .int .i64 s.hd] := hc
      have hk2 : (k : Int) < (an : Int) := Int.ofNat_lt.mpr hlt
      have hk0 : (0 : Int) ≤ k := Int.natCast_nonneg k
      clear hle
      go_wp2_with (first
        | ((with_reducible refine gate_dst (N := 62) rfl ?_); refine wpList_load_at rfl 55 (.tmp 61) rfl _ rfl [.int .i64 s.ki, .int .i64 s.id, .int .i64 s.x, .int .i64 s.y, .int .i64 s.hd] _ Try.underlying55 rfl (by kernel_rfl) hc ?_)
        | ((with_reducible refine gate_dst (N := 9) rfl ?_); refine box_event ?hg (N := 9) ?hd (cs := #[.int .i64 0, .int .i64 0, .int .i64 0, .int .i64 0, .int .i64 0]) (t := 55) ?hr ?_; (case hd => rfl); (case hg => rfl); (case hr => first | (go_simp; done) | (go_simp; rfl)); intro g9 eg9 w5 Xg9 Bg9; have hg9 : wo.heap.size ≤ g9 := Nat.le_of_eq eg9.symm; clear eg9)
        | ((with_reducible refine gate_store (t := 55) (p := 9) rfl ?_); refine wpList_store_blk rfl 55 (.tmp 9) (.tmp 62) rfl g9 [.int .i64 s.ki, .int .i64 s.id, .int .i64 s.x, .int .i64 s.y, .int .i64 s.hd] rfl rfl 55 _ Xg9 (by kernel_rfl) rfl rfl ?_; intro w6 Xs hb6 hk6 hz6; have hBr := hb6 _ _ Bg9 hg9; have hB := below_step hB hBr; have hown := pw_own_below hown hBr; clear hb6 hk6 Xg9 Bg9; have Xg9 := Xs; clear Xs; have cg9_0 : w6.cell? ⟨g9, 0, none⟩ = some (.int .i64 s.ki) := (blk_cell Xg9 0).trans rfl; have cg9_1 : w6.cell? ⟨g9, 1, none⟩ = some (.int .i64 s.id) := (blk_cell Xg9 1).trans rfl; have cg9_2 : w6.cell? ⟨g9, 2, none⟩ = some (.int .i64 s.x) := (blk_cell Xg9 2).trans rfl; have cg9_3 : w6.cell? ⟨g9, 3, none⟩ = some (.int .i64 s.y) := (blk_cell Xg9 3).trans rfl; have cg9_4 : w6.cell? ⟨g9, 4, none⟩ = some (.int .i64 s.hd) := (blk_cell Xg9 4).trans rfl; have cg4_15 : w6.cell? ⟨g4, 15, none⟩ = some (.slice bA bn bc) := (blk_cell (blk_below Xg4 hB) 15).trans rfl))
      go_loopw [7, 10, 11] (fun v d j wi => ∃ (m : Nat) (b : Bool) (ps : List P3), m ≤ bn ∧ j = .int .i64 m ∧ d = .bool b ∧ Aside0 (OwnP wi w2.heap.size v ps) ∧ Aside0 (Below w2.heap.size w2 wi) ∧ Aside0 (wi.heap[g9]? = some (.cells #[.int .i64 s.ki, .int .i64 s.id, .int .i64 s.x, .int .i64 s.y, .int .i64 s.hd] 55 (0, 0))) ∧ Aside0 (b = false → Apart s rs m ∧ PFs ps (ownB apl bpl awt bwt (ofP au av ahd) (ofP bu bv bhd) t ++ seenB (ss.take k) rs t)) ∧ Aside0 (b = true → PFs ps ((ownB apl bpl awt bwt (ofP au av ahd) (ofP bu bv bhd) t ++ seenB (ss.take k) rs t) ++ hits s rs t))) (fun _ _ j _ => bn - (intOf j).toNat)
      case atStart => exact ⟨0, false, ps, Nat.zero_le _, rfl, rfl, ⟨hown⟩, ⟨hB⟩, ⟨Xg9⟩, ⟨fun _ => ⟨Apart.zero _ _, HP.out⟩⟩, ⟨fun h => by cases h⟩⟩
      case round =>
        clear hown hB Xg9 HP cg9_0 cg9_1 cg9_2 cg9_3 cg9_4 cg4_15 cg3_15
        obtain ⟨m, b, ps, hmb, rfl, rfl, HW, HB, HX, HF, HT⟩ := hrel
        have hown := HW.out
        have hB := HB.out
        have Xg9 := HX.out
        clear HB HX HW
        obtain ⟨wi, rfl⟩ : ∃ wi, wi = wr := ⟨_, rfl⟩
        have cg4_15 : wi.cell? ⟨g4, 15, none⟩ = some (.slice bA bn bc) := (blk_cell (blk_below Xg4 hB) 15).trans rfl
        by_cases hlm : m < bn
        · have hm2 : (m : Int) < (bn : Int) := Int.ofNat_lt.mpr hlm
          have hm0 : (0 : Int) ≤ m := Int.natCast_nonneg m
          cases b with
          | true =>
            have HPN := Aside0.mk (HT.out rfl)
            clear HT HF
            go_wp2_with fail
            go_roundw
            case rel => exact ⟨k + 1, _, by omega, by go_num, ⟨hown⟩, ⟨by rw [HST.out, ← List.append_assoc]; exact HPN.out⟩, ⟨hB⟩⟩
            case measure => simp [intOf]; omega
          | false =>
            obtain ⟨HA, HP⟩ := HF.out rfl
            have HA := Aside0.mk HA
            have HP := Aside0.mk HP
            clear HF HT
            have hle := HLE.out ps HP.out
            obtain ⟨bd, eB, hd⟩ := (hR2.below hB).at_ m hlm
            subst eB
            have hlr : m < rs.length := by rw [hR2.len]; exact hlm
            have kr0 := hRH.lo m hlr
            have kr1 := hRH.hi m hlr
            obtain ⟨r, hr⟩ : ∃ r, rs.getD m default = r := ⟨_, rfl⟩
            rw [hr] at hd kr0 kr1
            have HR := Aside0.mk hr
            clear hr
            have hd : At wi (bd.add (m * 5)) [.int .i64 r.ki, .int .i64 r.id, .int .i64 r.x, .int .i64 r.y, .int .i64 r.hd] := hd
            by_cases h4 : s.ki = r.ki
            · have e4 : (r.ki == s.ki) = true := beq_iff_eq.2 h4.symm
              by_cases h5 : s.id = r.id
              · have e5 : (r.id == s.id) = true := beq_iff_eq.2 h5.symm
                have HM := Aside0.mk (hits_some (t := t) HA.out hlr (by rw [HR.out]; exact meets_yes h4 h5))
                rw [HR.out] at HM
                clear h4 h5
                go_wp2_with (first
                  | ((with_reducible refine gate_dst (N := 78) rfl ?_); refine wpList_load_at rfl 55 (.tmp 77) rfl _ rfl [.int .i64 r.ki, .int .i64 r.id, .int .i64 r.x, .int .i64 r.y, .int .i64 r.hd] _ Try.underlying55 rfl (by kernel_rfl) hd ?_)
                  | ((with_reducible refine gate_dst (N := 12) rfl ?_); refine box_event ?hg (N := 12) ?hd (cs := #[.int .i64 0, .int .i64 0, .int .i64 0, .int .i64 0, .int .i64 0]) (t := 55) ?hr ?_; (case hd => rfl); (case hg => rfl); (case hr => first | (go_simp; done) | (go_simp; rfl)); intro g12 eg12 w15 Xg12 Bg12; have hg12 : wi.heap.size ≤ g12 := Nat.le_of_eq eg12.symm; have n12 : g9 ≠ g12 := (by have := blk_lt Xg9; omega); clear eg12)
                  | ((with_reducible refine gate_store (t := 55) (p := 12) rfl ?_); refine wpList_store_blk rfl 55 (.tmp 12) (.tmp 78) rfl g12 [.int .i64 r.ki, .int .i64 r.id, .int .i64 r.x, .int .i64 r.y, .int .i64 r.hd] rfl rfl 55 _ Xg12 (by kernel_rfl) rfl rfl ?_; intro w16 Xs hb6 hk6 hz6; have hBr := hb6 _ _ Bg12 hg12; have hB := below_step hB hBr; have hown := pw_own_below hown hBr; have Xg9 := blk_below Xg9 hBr; have hsz := hBr.size; clear hb6 hk6 Xg12 Bg12 hBr; have Xg12 := Xs; clear Xs; have cg9_0 : w16.cell? ⟨g9, 0, none⟩ = some (.int .i64 s.ki) := (blk_cell Xg9 0).trans rfl; have cg9_1 : w16.cell? ⟨g9, 1, none⟩ = some (.int .i64 s.id) := (blk_cell Xg9 1).trans rfl; have cg9_2 : w16.cell? ⟨g9, 2, none⟩ = some (.int .i64 s.x) := (blk_cell Xg9 2).trans rfl; have cg9_3 : w16.cell? ⟨g9, 3, none⟩ = some (.int .i64 s.y) := (blk_cell Xg9 3).trans rfl; have cg9_4 : w16.cell? ⟨g9, 4, none⟩ = some (.int .i64 s.hd) := (blk_cell Xg9 4).trans rfl; have cg12_0 : w16.cell? ⟨g12, 0, none⟩ = some (.int .i64 r.ki) := (blk_cell Xg12 0).trans rfl; have cg12_1 : w16.cell? ⟨g12, 1, none⟩ = some (.int .i64 r.id) := (blk_cell Xg12 1).trans rfl; have cg12_2 : w16.cell? ⟨g12, 2, none⟩ = some (.int .i64 r.x) := (blk_cell Xg12 2).trans rfl; have cg12_3 : w16.cell? ⟨g12, 3, none⟩ = some (.int .i64 r.y) := (blk_cell Xg12 3).trans rfl; have cg12_4 : w16.cell? ⟨g12, 4, none⟩ = some (.int .i64 r.hd) := (blk_cell Xg12 4).trans rfl))
                refine start_ (n := 16) (S := fun w' => w'.cell? ⟨g9, 2, none⟩ = some (.int .i64 s.x) ∧ w'.cell? ⟨g9, 3, none⟩ = some (.int .i64 s.y) ∧ w'.cell? ⟨g9, 4, none⟩ = some (.int .i64 s.hd) ∧ w'.cell? ⟨g12, 2, none⟩ = some (.int .i64 r.x) ∧ w'.cell? ⟨g12, 3, none⟩ = some (.int .i64 r.y) ∧ w'.cell? ⟨g12, 4, none⟩ = some (.int .i64 r.hd)) (ds := [14]) #[false, false, false, false, false, false, false, false, false, false, false, false, false, false, false, false] (by kernel_rfl) rfl rfl ⟨cg9_2, cg9_3, cg9_4, cg12_2, cg12_3, cg12_4⟩ (fun hHeld => ?_)
                refine pure_ (i := 0) (N := some 91) (v := ?_) (a' := ?_) #[true, false, false, false, false, false, false, false, false, false, false, false, false, false, false, false] rfl rfl (by kernel_rfl) (fun _ _ _ h => h) (Or.inl ⟨by rfl, ?_⟩) ?_ ?_
                rotate_left
                · intro w'
                  go_simp
                  with_reducible rfl
                rotate_left
                · simp only [Act.put, List.setIfInBounds_toArray, List.set_cons_zero, List.set_cons_succ, i64_w, i32_w]
                  rfl
                refine pure_ (i := 1) (N := some 92) (v := ?_) (a' := ?_) #[true, true, false, false, false, false, false, false, false, false, false, false, false, false, false, false] rfl rfl (by kernel_rfl) (fun _ _ _ h => h) (Or.inl ⟨by rfl, ?_⟩) ?_ ?_
                rotate_left
                · intro w'
                  go_simp
                  with_reducible rfl
                rotate_left
                · simp only [Act.put, List.setIfInBounds_toArray, List.set_cons_zero, List.set_cons_succ, i64_w, i32_w]
                  rfl
                refine pure_ (i := 3) (N := some 94) (v := ?_) (a' := ?_) #[true, true, false, true, false, false, false, false, false, false, false, false, false, false, false, false] rfl rfl (by kernel_rfl) (fun _ _ _ h => h) (Or.inl ⟨by rfl, ?_⟩) ?_ ?_
                rotate_left
                · intro w'
                  go_simp
                  with_reducible rfl
                rotate_left
                · simp only [Act.put, List.setIfInBounds_toArray, List.set_cons_zero, List.set_cons_succ, i64_w, i32_w]
                  rfl
                refine pure_ (i := 6) (N := some 97) (v := ?_) (a' := ?_) #[true, true, false, true, false, false, true, false, false, false, false, false, false, false, false, false] rfl rfl (by kernel_rfl) (fun _ _ _ h => h) (Or.inl ⟨by rfl, ?_⟩) ?_ ?_
                rotate_left
                · intro w'
                  go_simp
                  with_reducible rfl
                rotate_left
                · simp only [Act.put, List.setIfInBounds_toArray, List.set_cons_zero, List.set_cons_succ, i64_w, i32_w]
                  rfl
                refine pure_ (i := 8) (N := some 99) (v := ?_) (a' := ?_) #[true, true, false, true, false, false, true, false, true, false, false, false, false, false, false, false] rfl rfl (by kernel_rfl) (fun _ _ _ h => h) (Or.inl ⟨by rfl, ?_⟩) ?_ ?_
                rotate_left
                · intro w'
                  go_simp
                  with_reducible rfl
                rotate_left
                · simp only [Act.put, List.setIfInBounds_toArray, List.set_cons_zero, List.set_cons_succ, i64_w, i32_w]
                  rfl
                refine pure_ (i := 11) (N := some 102) (v := ?_) (a' := ?_) #[true, true, false, true, false, false, true, false, true, false, false, true, false, false, false, false] rfl rfl (by kernel_rfl) (fun _ _ _ h => h) (Or.inl ⟨by rfl, ?_⟩) ?_ ?_
                rotate_left
                · intro w'
                  go_simp
                  with_reducible rfl
                rotate_left
                · simp only [Act.put, List.setIfInBounds_toArray, List.set_cons_zero, List.set_cons_succ, i64_w, i32_w]
                  rfl
                refine take_ (i := 2) (N := some 93) (v := ?_) (a' := ?_) #[true, true, true, true, false, false, true, false, true, false, false, true, false, false, false, false] rfl rfl (by kernel_rfl) (fun _ _ _ h => h) (Or.inl ⟨by rfl, ?_⟩) hHeld ?_ ?_
                rotate_left
                · rintro w' ⟨s0, s1, s2, s3, s4, s5⟩
                  go_simp
                  with_reducible rfl
                rotate_left
                · simp only [Act.put, List.setIfInBounds_toArray, List.set_cons_zero, List.set_cons_succ, i64_w, i32_w]
                  rfl
                refine take_ (i := 4) (N := some 95) (v := ?_) (a' := ?_) #[true, true, true, true, true, false, true, false, true, false, false, true, false, false, false, false] rfl rfl (by kernel_rfl) (fun _ _ _ h => h) (Or.inl ⟨by rfl, ?_⟩) hHeld ?_ ?_
                rotate_left
                · rintro w' ⟨s0, s1, s2, s3, s4, s5⟩
                  go_simp
                  with_reducible rfl
                rotate_left
                · simp only [Act.put, List.setIfInBounds_toArray, List.set_cons_zero, List.set_cons_succ, i64_w, i32_w]
                  rfl
                refine take_ (i := 7) (N := some 98) (v := ?_) (a' := ?_) #[true, true, true, true, true, false, true, true, true, false, false, true, false, false, false, false] rfl rfl (by kernel_rfl) (fun _ _ _ h => h) (Or.inl ⟨by rfl, ?_⟩) hHeld ?_ ?_
                rotate_left
                · rintro w' ⟨s0, s1, s2, s3, s4, s5⟩
                  go_simp
                  with_reducible rfl
                rotate_left
                · simp only [Act.put, List.setIfInBounds_toArray, List.set_cons_zero, List.set_cons_succ, i64_w, i32_w]
                  rfl
                refine take_ (i := 9) (N := some 100) (v := ?_) (a' := ?_) #[true, true, true, true, true, false, true, true, true, true, false, true, false, false, false, false] rfl rfl (by kernel_rfl) (fun _ _ _ h => h) (Or.inl ⟨by rfl, ?_⟩) hHeld ?_ ?_
                rotate_left
                · rintro w' ⟨s0, s1, s2, s3, s4, s5⟩
                  go_simp
                  with_reducible rfl
                rotate_left
                · simp only [Act.put, List.setIfInBounds_toArray, List.set_cons_zero, List.set_cons_succ, i64_w, i32_w]
                  rfl
                refine one_ (i := 5) (N := some 96) #[true, true, true, true, true, true, true, true, true, true, false, true, false, false, false, false] rfl rfl (by kernel_rfl) (by decide) (fun K hK => ?_)
                refine goes_ Try.func21 (by kernel_rfl) rfl _ (by rfl) rfl rfl (by simp only [List.map_toArray, List.map_cons, List.map_nil]; rfl) ?_
                refine (refof_calls s.x s.y s.hd (by first | exact kA0 | exact kB0 | exact ks0 | exact kr0) (by first | exact kA1 | exact kB1 | exact ks1 | exact kr1) _).mono ?_
                rintro e w8 ⟨p1, q1, r1, hp1, hq1, hr1', rfl, hb1⟩
                refine ⟨_, rfl, ?_⟩
                have hB := below_step (below_drew1 hB) hb1
                have hown := pw_own_below (own_drew hown) hb1
                have Xg9' := blk_below (blk_drew Xg9) hb1
                refine hK.out _ _ ⟨pw_cell_below hb1 (hHeld.1), pw_cell_below hb1 (hHeld.2.1), pw_cell_below hb1 (hHeld.2.2.1), pw_cell_below hb1 (hHeld.2.2.2.1), pw_cell_below hb1 (hHeld.2.2.2.2.1), pw_cell_below hb1 (hHeld.2.2.2.2.2)⟩ (fun hHeld => ?_)
                clear hK K
                refine norm_ (a' := ?_) ?_ ?_
                rotate_left
                · show Act.put _ (some 96) _ = _
                  simp only [Act.put, List.setIfInBounds_toArray, List.set_cons_zero, List.set_cons_succ, i64_w, i32_w]
                  rfl
                refine one_ (i := 10) (N := some 101) #[true, true, true, true, true, true, true, true, true, true, true, true, false, false, false, false] rfl rfl (by kernel_rfl) (by decide) (fun K hK => ?_)
                refine goes_ Try.func21 (by kernel_rfl) rfl _ (by rfl) rfl rfl (by simp only [List.map_toArray, List.map_cons, List.map_nil]; rfl) ?_
                refine (refof_calls r.x r.y r.hd (by first | exact kA0 | exact kB0 | exact ks0 | exact kr0) (by first | exact kA1 | exact kB1 | exact ks1 | exact kr1) _).mono ?_
                rintro e w8 ⟨p2, q2, r2, hp2, hq2, hr2', rfl, hb2⟩
                refine ⟨_, rfl, ?_⟩
                have hB := below_step hB hb2
                have hown := pw_own_below hown hb2
                have Xg9' := blk_below Xg9' hb2
                refine hK.out _ _ ⟨pw_cell_below hb2 (hHeld.1), pw_cell_below hb2 (hHeld.2.1), pw_cell_below hb2 (hHeld.2.2.1), pw_cell_below hb2 (hHeld.2.2.2.1), pw_cell_below hb2 (hHeld.2.2.2.2.1), pw_cell_below hb2 (hHeld.2.2.2.2.2)⟩ (fun hHeld => ?_)
                clear hK K
                refine norm_ (a' := ?_) ?_ ?_
                rotate_left
                · show Act.put _ (some 101) _ = _
                  simp only [Act.put, List.setIfInBounds_toArray, List.set_cons_zero, List.set_cons_succ, i64_w, i32_w]
                  rfl
                refine one_ (i := 12) (N := some 103) #[true, true, true, true, true, true, true, true, true, true, true, true, true, false, false, false] rfl rfl (by kernel_rfl) (by decide) (fun K hK => ?_)
                refine goes_ Try.func13 (by kernel_rfl) rfl _ (by rfl) rfl rfl (by simp only [List.map_toArray, List.map_cons, List.map_nil]; rfl) ?_
                refine (refmix_calls p1 q1 r1 p2 q2 r2 t _).mono ?_
                rintro e w8 ⟨x3, y3, z3, hx3, hy3, hz3, rfl, hb3⟩
                refine ⟨_, rfl, ?_⟩
                have hB := below_step hB hb3
                have hown := pw_own_below hown hb3
                have Xg9' := blk_below Xg9' hb3
                refine hK.out _ _ ⟨pw_cell_below hb3 (hHeld.1), pw_cell_below hb3 (hHeld.2.1), pw_cell_below hb3 (hHeld.2.2.1), pw_cell_below hb3 (hHeld.2.2.2.1), pw_cell_below hb3 (hHeld.2.2.2.2.1), pw_cell_below hb3 (hHeld.2.2.2.2.2)⟩ (fun hHeld => ?_)
                clear hK K
                refine norm_ (a' := ?_) ?_ ?_
                rotate_left
                · show Act.put _ (some 103) _ = _
                  simp only [Act.put, List.setIfInBounds_toArray, List.set_cons_zero, List.set_cons_succ, i64_w, i32_w]
                  rfl
                refine one_ (i := 13) (N := some 104) #[true, true, true, true, true, true, true, true, true, true, true, true, true, true, false, false] rfl rfl (by kernel_rfl) (by decide) (fun K hK => ?_)
                refine value_ (w1 := ?_) (v := ?_) (by rfl) rfl ?_ ?_
                rotate_left 2
                · go_simp
                  constructor
                  · rfl
                  · rfl
                refine hK.out _ _ ⟨pw_cell_below (below_alloc (Below.refl _ _) _) (hHeld.1), pw_cell_below (below_alloc (Below.refl _ _) _) (hHeld.2.1), pw_cell_below (below_alloc (Below.refl _ _) _) (hHeld.2.2.1), pw_cell_below (below_alloc (Below.refl _ _) _) (hHeld.2.2.2.1), pw_cell_below (below_alloc (Below.refl _ _) _) (hHeld.2.2.2.2.1), pw_cell_below (below_alloc (Below.refl _ _) _) (hHeld.2.2.2.2.2)⟩ (fun hHeld => ?_)
                clear hK K
                refine norm_ (a' := ?_) ?_ ?_
                rotate_left
                · show Act.put _ (some 104) _ = _
                  simp only [Act.put, List.setIfInBounds_toArray, List.set_cons_zero, List.set_cons_succ, i64_w, i32_w]
                  rfl
                refine last_ (i := 14) (N := some 105) #[true, true, true, true, true, true, true, true, true, true, true, true, true, true, true, false] rfl rfl (by kernel_rfl) (by decide) (fun K hK => ?_)
                refine step_append_cells (w0 := w2) w2.heap.size (by rfl) (.tmp 91) (.tmp 104) 51 24 (.agg #[.float .f32 0, .float .f32 0, .float .f32 0]) 3 12 rfl Try.underlying51 (by kernel_rfl) rfl (by decide) (by decide) _ ps.length (rowP ps) [.float .f32 x3, .float .f32 y3, .float .f32 z3] rfl rfl rfl (by simp [Value.oneCell']) hown hB hB.size (by omega) ?_
                have N9 := own_ne hown Xg9' (by decide)
                intro v9 w9 hown9 hB9 hg9' hat9
                refine hK.out _ _ ?_
                clear hK K
                refine norm_ (a' := ?_) ?_ ?_
                rotate_left
                · show Act.put _ (some 105) _ = _
                  simp only [Act.put, List.setIfInBounds_toArray, List.set_cons_zero, List.set_cons_succ, i64_w, i32_w]
                  rfl
                refine pure_ (i := 15) (N := some 7) (v := ?_) (a' := ?_) #[true, true, true, true, true, true, true, true, true, true, true, true, true, true, true, true] rfl rfl (by kernel_rfl) (fun _ _ _ h => h) (Or.inl ⟨by rfl, ?_⟩) ?_ ?_
                rotate_left
                · intro w'
                  go_simp
                  with_reducible rfl
                rotate_left
                · simp only [Act.put, List.setIfInBounds_toArray, List.set_cons_zero, List.set_cons_succ, i64_w, i32_w]
                  rfl
                refine done_ (by kernel_rfl) ?_

                have hown := own_more hown9
                have HPN := Aside0.mk (HP.out.snoc (pf_mix (p := s.p) (q := r.p) hx3 hy3 hz3 hp1 hq1 hr1' hp2 hq2 hr2'))
                have hB := hB9
                have Xg9 := blk_grown Xg9' hg9' N9
                clear hown9 hB9 hx3 hy3 hz3 hp1 hq1 hp2 hq2
                go_wp2
                go_roundw
                case rel => exact ⟨m + 1, true, _, by omega, by go_num, rfl, ⟨hown⟩, ⟨hB⟩, ⟨Xg9⟩, ⟨fun h => by cases h⟩, ⟨fun _ => by rw [HM.out]; exact HPN.out⟩⟩
                case measure => simp [intOf]; omega
              · have e5 : (r.id == s.id) = false := beq_eq_false_iff_ne.2 (fun e => h5 e.symm)
                have HA2 := HA.out.step (by rw [HR.out]; exact meets_no2 h5)
                have HA2 := Aside0.mk HA2
                clear h4 h5
                go_wp2_with (first
                  | ((with_reducible refine gate_dst (N := 78) rfl ?_); refine wpList_load_at rfl 55 (.tmp 77) rfl _ rfl [.int .i64 r.ki, .int .i64 r.id, .int .i64 r.x, .int .i64 r.y, .int .i64 r.hd] _ Try.underlying55 rfl (by kernel_rfl) hd ?_)
                  | ((with_reducible refine gate_dst (N := 12) rfl ?_); refine box_event ?hg (N := 12) ?hd (cs := #[.int .i64 0, .int .i64 0, .int .i64 0, .int .i64 0, .int .i64 0]) (t := 55) ?hr ?_; (case hd => rfl); (case hg => rfl); (case hr => first | (go_simp; done) | (go_simp; rfl)); intro g12 eg12 w15 Xg12 Bg12; have hg12 : wi.heap.size ≤ g12 := Nat.le_of_eq eg12.symm; have n12 : g9 ≠ g12 := (by have := blk_lt Xg9; omega); clear eg12)
                  | ((with_reducible refine gate_store (t := 55) (p := 12) rfl ?_); refine wpList_store_blk rfl 55 (.tmp 12) (.tmp 78) rfl g12 [.int .i64 r.ki, .int .i64 r.id, .int .i64 r.x, .int .i64 r.y, .int .i64 r.hd] rfl rfl 55 _ Xg12 (by kernel_rfl) rfl rfl ?_; intro w16 Xs hb6 hk6 hz6; have hBr := hb6 _ _ Bg12 hg12; have hB := below_step hB hBr; have hown := pw_own_below hown hBr; have Xg9 := blk_below Xg9 hBr; have hsz := hBr.size; clear hb6 hk6 Xg12 Bg12 hBr; have Xg12 := Xs; clear Xs; have cg9_0 : w16.cell? ⟨g9, 0, none⟩ = some (.int .i64 s.ki) := (blk_cell Xg9 0).trans rfl; have cg9_1 : w16.cell? ⟨g9, 1, none⟩ = some (.int .i64 s.id) := (blk_cell Xg9 1).trans rfl; have cg9_2 : w16.cell? ⟨g9, 2, none⟩ = some (.int .i64 s.x) := (blk_cell Xg9 2).trans rfl; have cg9_3 : w16.cell? ⟨g9, 3, none⟩ = some (.int .i64 s.y) := (blk_cell Xg9 3).trans rfl; have cg9_4 : w16.cell? ⟨g9, 4, none⟩ = some (.int .i64 s.hd) := (blk_cell Xg9 4).trans rfl; have cg12_0 : w16.cell? ⟨g12, 0, none⟩ = some (.int .i64 r.ki) := (blk_cell Xg12 0).trans rfl; have cg12_1 : w16.cell? ⟨g12, 1, none⟩ = some (.int .i64 r.id) := (blk_cell Xg12 1).trans rfl; have cg12_2 : w16.cell? ⟨g12, 2, none⟩ = some (.int .i64 r.x) := (blk_cell Xg12 2).trans rfl; have cg12_3 : w16.cell? ⟨g12, 3, none⟩ = some (.int .i64 r.y) := (blk_cell Xg12 3).trans rfl; have cg12_4 : w16.cell? ⟨g12, 4, none⟩ = some (.int .i64 r.hd) := (blk_cell Xg12 4).trans rfl))
                go_roundw
                case rel => exact ⟨m + 1, false, _, by omega, by go_num, rfl, ⟨hown⟩, ⟨hB⟩, ⟨Xg9⟩, ⟨fun _ => ⟨HA2.out, HP.out⟩⟩, ⟨fun h => by cases h⟩⟩
                case measure => simp [intOf]; omega
            · have e4 : (r.ki == s.ki) = false := beq_eq_false_iff_ne.2 (fun e => h4 e.symm)
              have HA2 := Aside0.mk (HA.out.step (by rw [HR.out]; exact meets_no1 h4))
              clear h4
              go_wp2_with (first
                  | ((with_reducible refine gate_dst (N := 78) rfl ?_); refine wpList_load_at rfl 55 (.tmp 77) rfl _ rfl [.int .i64 r.ki, .int .i64 r.id, .int .i64 r.x, .int .i64 r.y, .int .i64 r.hd] _ Try.underlying55 rfl (by kernel_rfl) hd ?_)
                  | ((with_reducible refine gate_dst (N := 12) rfl ?_); refine box_event ?hg (N := 12) ?hd (cs := #[.int .i64 0, .int .i64 0, .int .i64 0, .int .i64 0, .int .i64 0]) (t := 55) ?hr ?_; (case hd => rfl); (case hg => rfl); (case hr => first | (go_simp; done) | (go_simp; rfl)); intro g12 eg12 w15 Xg12 Bg12; have hg12 : wi.heap.size ≤ g12 := Nat.le_of_eq eg12.symm; have n12 : g9 ≠ g12 := (by have := blk_lt Xg9; omega); clear eg12)
                  | ((with_reducible refine gate_store (t := 55) (p := 12) rfl ?_); refine wpList_store_blk rfl 55 (.tmp 12) (.tmp 78) rfl g12 [.int .i64 r.ki, .int .i64 r.id, .int .i64 r.x, .int .i64 r.y, .int .i64 r.hd] rfl rfl 55 _ Xg12 (by kernel_rfl) rfl rfl ?_; intro w16 Xs hb6 hk6 hz6; have hBr := hb6 _ _ Bg12 hg12; have hB := below_step hB hBr; have hown := pw_own_below hown hBr; have Xg9 := blk_below Xg9 hBr; have hsz := hBr.size; clear hb6 hk6 Xg12 Bg12 hBr; have Xg12 := Xs; clear Xs; have cg9_0 : w16.cell? ⟨g9, 0, none⟩ = some (.int .i64 s.ki) := (blk_cell Xg9 0).trans rfl; have cg9_1 : w16.cell? ⟨g9, 1, none⟩ = some (.int .i64 s.id) := (blk_cell Xg9 1).trans rfl; have cg9_2 : w16.cell? ⟨g9, 2, none⟩ = some (.int .i64 s.x) := (blk_cell Xg9 2).trans rfl; have cg9_3 : w16.cell? ⟨g9, 3, none⟩ = some (.int .i64 s.y) := (blk_cell Xg9 3).trans rfl; have cg9_4 : w16.cell? ⟨g9, 4, none⟩ = some (.int .i64 s.hd) := (blk_cell Xg9 4).trans rfl; have cg12_0 : w16.cell? ⟨g12, 0, none⟩ = some (.int .i64 r.ki) := (blk_cell Xg12 0).trans rfl; have cg12_1 : w16.cell? ⟨g12, 1, none⟩ = some (.int .i64 r.id) := (blk_cell Xg12 1).trans rfl; have cg12_2 : w16.cell? ⟨g12, 2, none⟩ = some (.int .i64 r.x) := (blk_cell Xg12 2).trans rfl; have cg12_3 : w16.cell? ⟨g12, 3, none⟩ = some (.int .i64 r.y) := (blk_cell Xg12 3).trans rfl; have cg12_4 : w16.cell? ⟨g12, 4, none⟩ = some (.int .i64 r.hd) := (blk_cell Xg12 4).trans rfl))
              go_roundw
              case rel => exact ⟨m + 1, false, _, by omega, by go_num, rfl, ⟨hown⟩, ⟨hB⟩, ⟨Xg9⟩, ⟨fun _ => ⟨HA2.out, HP.out⟩⟩, ⟨fun h => by cases h⟩⟩
              case measure => simp [intOf]; omega
        · obtain rfl : m = bn := by omega
          have HPN : Aside0 (PFs ps ((ownB apl bpl awt bwt (ofP au av ahd) (ofP bu bv bhd) t ++ seenB (ss.take k) rs t) ++ hits s rs t)) := ⟨by
            cases b with
            | true => exact HT.out rfl
            | false =>
              obtain ⟨HA, HP⟩ := HF.out rfl
              rw [hits_none (t := t) (by rw [hR2.len]; exact HA), List.append_nil]
              exact HP⟩
          clear HF HT
          go_wp2_with fail
          go_roundw
          case rel => exact ⟨k + 1, _, by omega, by go_num, ⟨hown⟩, ⟨by rw [HST.out, ← List.append_assoc]; exact HPN.out⟩, ⟨hB⟩⟩
          case measure => simp [intOf]; omega
    · obtain rfl : k = an := by omega
      obtain ⟨A, c, rfl, _, _⟩ := own_prow hown
      have hHP : PFs ps (ownB apl bpl awt bwt (ofP au av ahd) (ofP bu bv bhd) t ++ seenB ss rs t) := by
        have := HP.out
        rwa [List.take_of_length_le (Nat.le_of_eq hS2.len)] at this
      have HP := Aside0.mk hHP
      clear hHP
      go_wp2_with fail
      go_ret
      exact ⟨A, c, ps, rfl, own_less hown hB0.size, HP.out, below_step hB0 hB⟩

set_option maxHeartbeats 8000000 in
set_option maxRecDepth 100000 in
theorem refbetween_calls (atk apl au av avx avy ahd ahe aen aam aco awt asp asc : Int) (anm : ByteArray) (aA : Option Addr) (an ac : Nat) (btk bpl bu bv bvx bvy bhd bhe ben bam bco bwt bsp bsc : Int) (bnm : ByteArray) (bA : Option Addr) (bn bc : Nat) (t : Nat) (w : World) (ss rs : List S5) (hS : SRow w aA an ss) (hR : SRow w bA bn rs) (hn : an * 12 + 12 ≤ 140737488355328) (hm : bn ≤ 9223372036854775807) (kA0 : -9223372036854775808 ≤ ahd) (kA1 : ahd ≤ 9223372036854775807) (kB0 : -9223372036854775808 ≤ bhd) (kB1 : bhd ≤ 9223372036854775807) (hSH : Hds ss) (hRH : Hds rs) : Calls Try.prog 27 #[.agg #[.int .u64 atk, .int .i64 apl, .string anm, .int .i64 au, .int .i64 av, .int .i64 avx, .int .i64 avy, .int .i64 ahd, .int .i64 ahe, .int .i64 aen, .int .i64 aam, .int .i64 aco, .int .i64 awt, .int .i64 asp, .int .i64 asc, .slice aA an ac], .agg #[.int .u64 btk, .int .i64 bpl, .string bnm, .int .i64 bu, .int .i64 bv, .int .i64 bvx, .int .i64 bvy, .int .i64 bhd, .int .i64 bhe, .int .i64 ben, .int .i64 bam, .int .i64 bco, .int .i64 bwt, .int .i64 bsp, .int .i64 bsc, .slice bA bn bc], .float .f32 t] w fun e w' => ∃ A c ps, e = .returned (.slice A ps.length c) ∧ OwnP w' w.heap.size (.slice A ps.length c) ps ∧ PFs ps (ownB apl bpl awt bwt (ofP au av ahd) (ofP bu bv bhd) t ++ seenB ss rs t) ∧ Below w.heap.size w w' := by
  by_cases h1 : apl = bpl
  · by_cases h2 : awt ≤ 0
    · by_cases h3 : bwt ≤ 0
      · exact refbetween_calls_0 atk apl au av avx avy ahd ahe aen aam aco awt asp asc anm aA an ac btk bpl bu bv bvx bvy bhd bhe ben bam bco bwt bsp bsc bnm bA bn bc t w ss rs hS hR hn hm kA0 kA1 kB0 kB1 hSH hRH h1 h2 h3
      · exact refbetween_calls_3 atk apl au av avx avy ahd ahe aen aam aco awt asp asc anm aA an ac btk bpl bu bv bvx bvy bhd bhe ben bam bco bwt bsp bsc bnm bA bn bc t w ss rs hS hR hn hm kA0 kA1 kB0 kB1 hSH hRH h1 h2 h3
    · exact refbetween_calls_2 atk apl au av avx avy ahd ahe aen aam aco awt asp asc anm aA an ac btk bpl bu bv bvx bvy bhd bhe ben bam bco bwt bsp bsc bnm bA bn bc t w ss rs hS hR hn hm kA0 kA1 kB0 kB1 hSH hRH h1 h2
  · exact refbetween_calls_1 atk apl au av avx avy ahd ahe aen aam aco awt asp asc anm aA an ac btk bpl bu bv bvx bvy bhd bhe ben bam bco bwt bsp bsc bnm bA bn bc t w ss rs hS hR hn hm kA0 kA1 kB0 kB1 hSH hRH h1
end Go.Proofs.Ytjffkidfoapbjaa.Fl
