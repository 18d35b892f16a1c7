/- Proved: what Between answers, of any two views. -/
import Derived.Test.YtjffkidfoapbjaaSeen
namespace Go.Proofs.Ytjffkidfoapbjaa.Fl
open Go.RowKit Go.Proofs.YtjffkidfoapbjaaW.PrintWords Go.Proofs.YtjffkidfoapbjaaW.PrintLast Go.Proofs.YtjffkidfoapbjaaW.PrintMore
set_option linter.unusedVariables false
set_option linter.unusedSimpArgs false
attribute [local go_sem] run_store_float
theorem pf_mix {x y z p1 q1 r1 p2 q2 r2 t : Nat} {p q : P3} (hx : Fe x (mixS p1 p2 t)) (hy : Fe y (mixS q1 q2 t)) (hz : Fe z (mixA r1 r2 t)) (a1 : Fe p1 p.x) (b1 : Fe q1 p.y) (c1 : Fe r1 p.a) (a2 : Fe p2 q.x) (b2 : Fe q2 q.y) (c2 : Fe r2 q.a) : PF ⟨x, y, z⟩ (mixP p q t) :=
  ⟨hx.trans (mixS_congr t a1 a2), hy.trans (mixS_congr t b1 b2), hz.trans (mixA_congr t c1 c2)⟩
theorem own_one {w : World} {base : Nat} {v : Value} {x y z : Nat} (h : w.ownsRow base 24 3 v (0 + 1) ([] ++ [.float .f32 x, .float .f32 y, .float .f32 z])) : OwnP w base v [⟨x, y, z⟩] := h
theorem own_more {w : World} {base : Nat} {v : Value} {ps : List P3} {x y z : Nat} (h : w.ownsRow base 24 3 v (ps.length + 1) (rowP ps ++ [.float .f32 x, .float .f32 y, .float .f32 z])) : OwnP w base v (ps ++ [⟨x, y, z⟩]) := by
  unfold OwnP
  rw [← rowP_snoc, List.length_append]
  exact h
def ownB (apl bpl awt bwt : Int) (p q : P3) (t : Nat) : List P3 := if apl = bpl ∧ awt ≤ 0 ∧ bwt ≤ 0 then [mixP p q t] else []
theorem ownB_le (apl bpl awt bwt : Int) (p q : P3) (t : Nat) : (ownB apl bpl awt bwt p q t).length ≤ 1 := by
  unfold ownB
  split <;> simp
theorem ps_bound {ps qs : List P3} {l m : List S5} {t k n : Nat} (h : PFs ps (qs ++ seenB (l.take k) m t)) (h0 : qs.length ≤ 1) (hk : k < n) (hn : n * 12 + 12 ≤ 140737488355328) : ps.length * 12 + 12 ≤ 140737488355328 := by
  have h1 := h.len
  have h2 := seenB_le (l.take k) m t
  rw [List.length_append] at h1
  rw [List.length_take] at h2
  omega
set_option maxHeartbeats 8000000 in
set_option maxRecDepth 100000 in
theorem between_calls_0 (atk apl au av avx avy ahd ahe aen aam aco awt asp asc : Int) (anm : ByteArray) (aA : Option Addr) (an ac : Nat) (btk bpl bu bv bvx bvy bhd bhe ben bam bco bwt bsp bsc : Int) (bnm : ByteArray) (bA : Option Addr) (bn bc : Nat) (t : Nat) (w : World) (ss rs : List S5) (hS : SRow w aA an ss) (hR : SRow w bA bn rs) (hn : an * 12 + 12 ≤ 140737488355328) (hm : bn ≤ 9223372036854775807) (h1 : apl = bpl) (h2 : awt ≤ 0) (h3 : bwt ≤ 0) : Calls Try.prog 26 #[.agg #[.int .u64 atk, .int .i64 apl, .string anm, .int .i64 au, .int .i64 av, .int .i64 avx, .int .i64 avy, .int .i64 ahd, .int .i64 ahe, .int .i64 aen, .int .i64 aam, .int .i64 aco, .int .i64 awt, .int .i64 asp, .int .i64 asc, .slice aA an ac], .agg #[.int .u64 btk, .int .i64 bpl, .string bnm, .int .i64 bu, .int .i64 bv, .int .i64 bvx, .int .i64 bvy, .int .i64 bhd, .int .i64 bhe, .int .i64 ben, .int .i64 bam, .int .i64 bco, .int .i64 bwt, .int .i64 bsp, .int .i64 bsc, .slice bA bn bc], .float .f32 t] w fun e w' => ∃ A c ps, e = .returned (.slice A ps.length c) ∧ OwnP w' w.heap.size (.slice A ps.length c) ps ∧ PFs ps (ownB apl bpl awt bwt (ofP au av ahd) (ofP bu bv bhd) t ++ seenB ss rs t) ∧ Below w.heap.size w w' := by
  have hu47 := Try.underlying47
  have hu40 := Try.underlying40
  have hu38 := Try.underlying38
  have hu55 := Try.underlying55
  have hu45 := Try.underlying45
  have hu51 := Try.underlying51
  have hu24 := Try.underlying24
  have hu3 := Try.underlying3
  have hnn : (an : Int) ≤ 9223372036854775807 := by omega
  have hmm : (bn : Int) ≤ 9223372036854775807 := by omega
  have e1 : (apl == bpl) = true := beq_iff_eq.2 h1
  have d2 : decide (awt ≤ 0) = true := decide_eq_true h2
  have d3 : decide (bwt ≤ 0) = true := decide_eq_true h3
  have HO := Aside0.mk (show ownB apl bpl awt bwt (ofP au av ahd) (ofP bu bv bhd) t = [mixP (ofP au av ahd) (ofP bu bv bhd) t] from if_pos ⟨h1, h2, h3⟩)
  clear h1
  go_enter Try.func26, Try.ntmps26
  go_wp2_with (first
        | ((try (refine gate_guard (by rfl) ?_; dsimp only)); refine wpList_fl _ rfl _ _ _ _ _ rfl (by decide) _ _ _ _ rfl rfl (by first | assumption | exact Fe.refl _) (by first | assumption | exact Fe.refl _) ?_; intro z nd hz)
        | ((try (refine gate_guard (by rfl) ?_; dsimp only)); refine wpList_flc _ rfl _ _ _ _ _ rfl (by decide) _ _ _ _ rfl rfl (by first | assumption | exact Fe.refl _) (by first | assumption | exact Fe.refl _) ?_)
        | ((with_reducible refine gate_dst (N := 3) rfl ?_); refine box_event ?hg (N := 3) ?hd (cs := #[.int .u64 atk, .int .i64 apl, .string anm, .int .i64 au, .int .i64 av, .int .i64 avx, .int .i64 avy, .int .i64 ahd, .int .i64 ahe, .int .i64 aen, .int .i64 aam, .int .i64 aco, .int .i64 awt, .int .i64 asp, .int .i64 asc, .slice aA an ac]) (t := 47) ?hr ?_; (case hd => rfl); (case hg => rfl); (case hr => first | (go_simp; done) | (go_simp; rfl)); intro g3 eg3 w1 Xg3 Bg3; clear eg3)
        | ((with_reducible refine gate_dst (N := 4) rfl ?_); refine box_event ?hg (N := 4) ?hd (cs := #[.int .u64 btk, .int .i64 bpl, .string bnm, .int .i64 bu, .int .i64 bv, .int .i64 bvx, .int .i64 bvy, .int .i64 bhd, .int .i64 bhe, .int .i64 ben, .int .i64 bam, .int .i64 bco, .int .i64 bwt, .int .i64 bsp, .int .i64 bsc, .slice bA bn bc]) (t := 47) ?hr ?_; (case hd => rfl); (case hg => rfl); (case hr => first | (go_simp; done) | (go_simp; rfl)); intro g4 eg4 w2 Xg4 Bg4; have Xg3 := blk_below Xg3 Bg4; have hB0 := below_step Bg3 Bg4; have hS2 := (hS.below Bg3).below Bg4; have hR2 := (hR.below Bg3).below Bg4; have hB := Below.refl w2.heap.size w2; have lg3 := blk_lt Xg3; have lg4 := blk_lt Xg4; clear eg4 Bg3 Bg4 hS hR; have cg3_1 : w2.cell? ⟨g3, 1, none⟩ = some (.int .i64 apl) := (blk_cell Xg3 1).trans rfl; have cg3_3 : w2.cell? ⟨g3, 3, none⟩ = some (.int .i64 au) := (blk_cell Xg3 3).trans rfl; have cg3_4 : w2.cell? ⟨g3, 4, none⟩ = some (.int .i64 av) := (blk_cell Xg3 4).trans rfl; have cg3_7 : w2.cell? ⟨g3, 7, none⟩ = some (.int .i64 ahd) := (blk_cell Xg3 7).trans rfl; have cg3_12 : w2.cell? ⟨g3, 12, none⟩ = some (.int .i64 awt) := (blk_cell Xg3 12).trans rfl; have cg3_15 : w2.cell? ⟨g3, 15, none⟩ = some (.slice aA an ac) := (blk_cell Xg3 15).trans rfl; have cg4_1 : w2.cell? ⟨g4, 1, none⟩ = some (.int .i64 bpl) := (blk_cell Xg4 1).trans rfl; have cg4_3 : w2.cell? ⟨g4, 3, none⟩ = some (.int .i64 bu) := (blk_cell Xg4 3).trans rfl; have cg4_4 : w2.cell? ⟨g4, 4, none⟩ = some (.int .i64 bv) := (blk_cell Xg4 4).trans rfl; have cg4_7 : w2.cell? ⟨g4, 7, none⟩ = some (.int .i64 bhd) := (blk_cell Xg4 7).trans rfl; have cg4_12 : w2.cell? ⟨g4, 12, none⟩ = some (.int .i64 bwt) := (blk_cell Xg4 12).trans rfl; have cg4_15 : w2.cell? ⟨g4, 15, none⟩ = some (.slice bA bn bc) := (blk_cell Xg4 15).trans rfl))
  refine start_ (n := 20) (S := fun w' => w'.cell? ⟨g3, 3, none⟩ = some (.int .i64 au) ∧ w'.cell? ⟨g3, 4, none⟩ = some (.int .i64 av) ∧ w'.cell? ⟨g3, 7, none⟩ = some (.int .i64 ahd) ∧ w'.cell? ⟨g4, 3, none⟩ = some (.int .i64 bu) ∧ w'.cell? ⟨g4, 4, none⟩ = some (.int .i64 bv) ∧ w'.cell? ⟨g4, 7, none⟩ = some (.int .i64 bhd)) (ds := [18]) #[false, false, false, false, false, false, false, false, false, false, false, false, false, false, false, false, false, false, false, false] (by kernel_rfl) rfl rfl ⟨cg3_3, cg3_4, cg3_7, cg4_3, cg4_4, cg4_7⟩ (fun hHeld => ?_)
  refine pure_ (i := 0) (N := some 31) (v := ?_) (a' := ?_) #[true, false, false, false, false, false, false, false, false, false, false, false, false, false, false, false, false, false, false, false] rfl rfl (by kernel_rfl) (fun _ _ _ h => h) (Or.inl ⟨by rfl, ?_⟩) ?_ ?_
  rotate_left
  · intro w'
    go_simp
    with_reducible rfl
  rotate_left
  · simp only [Act.put, List.setIfInBounds_toArray, List.set_cons_zero, List.set_cons_succ, i64_w, i32_w]
    rfl
  refine pure_ (i := 1) (N := some 32) (v := ?_) (a' := ?_) #[true, true, false, false, false, false, false, false, false, false, false, false, false, false, false, false, false, false, false, false] rfl rfl (by kernel_rfl) (fun _ _ _ h => h) (Or.inl ⟨by rfl, ?_⟩) ?_ ?_
  rotate_left
  · intro w'
    go_simp
    with_reducible rfl
  rotate_left
  · simp only [Act.put, List.setIfInBounds_toArray, List.set_cons_zero, List.set_cons_succ, i64_w, i32_w]
    rfl
  refine pure_ (i := 2) (N := some 33) (v := ?_) (a' := ?_) #[true, true, true, false, false, false, false, false, false, false, false, false, false, false, false, false, false, false, false, false] rfl rfl (by kernel_rfl) (fun _ _ _ h => h) (Or.inl ⟨by rfl, ?_⟩) ?_ ?_
  rotate_left
  · intro w'
    go_simp
    with_reducible rfl
  rotate_left
  · simp only [Act.put, List.setIfInBounds_toArray, List.set_cons_zero, List.set_cons_succ, i64_w, i32_w]
    rfl
  refine pure_ (i := 4) (N := some 35) (v := ?_) (a' := ?_) #[true, true, true, false, true, false, false, false, false, false, false, false, false, false, false, false, false, false, false, false] rfl rfl (by kernel_rfl) (fun _ _ _ h => h) (Or.inl ⟨by rfl, ?_⟩) ?_ ?_
  rotate_left
  · intro w'
    go_simp
    with_reducible rfl
  rotate_left
  · simp only [Act.put, List.setIfInBounds_toArray, List.set_cons_zero, List.set_cons_succ, i64_w, i32_w]
    rfl
  refine pure_ (i := 5) (N := some 36) (v := ?_) (a' := ?_) #[true, true, true, false, true, true, false, false, false, false, false, false, false, false, false, false, false, false, false, false] rfl rfl (by kernel_rfl) (fun _ _ _ h => h) (Or.inl ⟨by rfl, ?_⟩) ?_ ?_
  rotate_left
  · intro w'
    go_simp
    with_reducible rfl
  rotate_left
  · simp only [Act.put, List.setIfInBounds_toArray, List.set_cons_zero, List.set_cons_succ, i64_w, i32_w]
    rfl
  refine pure_ (i := 8) (N := some 39) (v := ?_) (a' := ?_) #[true, true, true, false, true, true, false, false, true, false, false, false, false, false, false, false, false, false, false, false] rfl rfl (by kernel_rfl) (fun _ _ _ h => h) (Or.inl ⟨by rfl, ?_⟩) ?_ ?_
  rotate_left
  · intro w'
    go_simp
    with_reducible rfl
  rotate_left
  · simp only [Act.put, List.setIfInBounds_toArray, List.set_cons_zero, List.set_cons_succ, i64_w, i32_w]
    rfl
  refine pure_ (i := 9) (N := some 40) (v := ?_) (a' := ?_) #[true, true, true, false, true, true, false, false, true, true, false, false, false, false, false, false, false, false, false, false] rfl rfl (by kernel_rfl) (fun _ _ _ h => h) (Or.inl ⟨by rfl, ?_⟩) ?_ ?_
  rotate_left
  · intro w'
    go_simp
    with_reducible rfl
  rotate_left
  · simp only [Act.put, List.setIfInBounds_toArray, List.set_cons_zero, List.set_cons_succ, i64_w, i32_w]
    rfl
  refine pure_ (i := 11) (N := some 42) (v := ?_) (a' := ?_) #[true, true, true, false, true, true, false, false, true, true, false, true, false, false, false, false, false, false, false, false] rfl rfl (by kernel_rfl) (fun _ _ _ h => h) (Or.inl ⟨by rfl, ?_⟩) ?_ ?_
  rotate_left
  · intro w'
    go_simp
    with_reducible rfl
  rotate_left
  · simp only [Act.put, List.setIfInBounds_toArray, List.set_cons_zero, List.set_cons_succ, i64_w, i32_w]
    rfl
  refine pure_ (i := 12) (N := some 43) (v := ?_) (a' := ?_) #[true, true, true, false, true, true, false, false, true, true, false, true, true, false, false, false, false, false, false, false] rfl rfl (by kernel_rfl) (fun _ _ _ h => h) (Or.inl ⟨by rfl, ?_⟩) ?_ ?_
  rotate_left
  · intro w'
    go_simp
    with_reducible rfl
  rotate_left
  · simp only [Act.put, List.setIfInBounds_toArray, List.set_cons_zero, List.set_cons_succ, i64_w, i32_w]
    rfl
  refine pure_ (i := 15) (N := some 46) (v := ?_) (a' := ?_) #[true, true, true, false, true, true, false, false, true, true, false, true, true, false, false, true, false, false, false, false] rfl rfl (by kernel_rfl) (fun _ _ _ h => h) (Or.inl ⟨by rfl, ?_⟩) ?_ ?_
  rotate_left
  · intro w'
    go_simp
    with_reducible rfl
  rotate_left
  · simp only [Act.put, List.setIfInBounds_toArray, List.set_cons_zero, List.set_cons_succ, i64_w, i32_w]
    rfl
  refine take_ (i := 3) (N := some 34) (v := ?_) (a' := ?_) #[true, true, true, true, true, true, false, false, true, true, false, true, true, false, false, true, false, false, false, false] rfl rfl (by kernel_rfl) (fun _ _ _ h => h) (Or.inl ⟨by rfl, ?_⟩) hHeld ?_ ?_
  rotate_left
  · rintro w' ⟨s0, s1, s2, s3, s4, s5⟩
    go_simp
    with_reducible rfl
  rotate_left
  · simp only [Act.put, List.setIfInBounds_toArray, List.set_cons_zero, List.set_cons_succ, i64_w, i32_w]
    rfl
  refine take_ (i := 6) (N := some 37) (v := ?_) (a' := ?_) #[true, true, true, true, true, true, true, false, true, true, false, true, true, false, false, true, false, false, false, false] rfl rfl (by kernel_rfl) (fun _ _ _ h => h) (Or.inl ⟨by rfl, ?_⟩) hHeld ?_ ?_
  rotate_left
  · rintro w' ⟨s0, s1, s2, s3, s4, s5⟩
    go_simp
    with_reducible rfl
  rotate_left
  · simp only [Act.put, List.setIfInBounds_toArray, List.set_cons_zero, List.set_cons_succ, i64_w, i32_w]
    rfl
  refine take_ (i := 10) (N := some 41) (v := ?_) (a' := ?_) #[true, true, true, true, true, true, true, false, true, true, true, true, true, false, false, true, false, false, false, false] rfl rfl (by kernel_rfl) (fun _ _ _ h => h) (Or.inl ⟨by rfl, ?_⟩) hHeld ?_ ?_
  rotate_left
  · rintro w' ⟨s0, s1, s2, s3, s4, s5⟩
    go_simp
    with_reducible rfl
  rotate_left
  · simp only [Act.put, List.setIfInBounds_toArray, List.set_cons_zero, List.set_cons_succ, i64_w, i32_w]
    rfl
  refine take_ (i := 13) (N := some 44) (v := ?_) (a' := ?_) #[true, true, true, true, true, true, true, false, true, true, true, true, true, true, false, true, false, false, false, false] rfl rfl (by kernel_rfl) (fun _ _ _ h => h) (Or.inl ⟨by rfl, ?_⟩) hHeld ?_ ?_
  rotate_left
  · rintro w' ⟨s0, s1, s2, s3, s4, s5⟩
    go_simp
    with_reducible rfl
  rotate_left
  · simp only [Act.put, List.setIfInBounds_toArray, List.set_cons_zero, List.set_cons_succ, i64_w, i32_w]
    rfl
  refine one_ (i := 7) (N := some 38) #[true, true, true, true, true, true, true, true, true, true, true, true, true, true, false, true, false, false, false, false] rfl rfl (by kernel_rfl) (by decide) (fun K hK => ?_)
  refine goes_ Try.func20 (by kernel_rfl) rfl _ (by rfl) rfl rfl (by simp only [List.map_toArray, List.map_cons, List.map_nil]; rfl) ?_
  refine (of_calls au av ahd _).mono ?_
  rintro e w8 ⟨p1, q1, hp1, hq1, rfl, hb1⟩
  refine ⟨_, rfl, ?_⟩
  have hB := below_step (below_drew1 hB) hb1
  refine hK.out _ _ ⟨pw_cell_below hb1 (hHeld.1), pw_cell_below hb1 (hHeld.2.1), pw_cell_below hb1 (hHeld.2.2.1), pw_cell_below hb1 (hHeld.2.2.2.1), pw_cell_below hb1 (hHeld.2.2.2.2.1), pw_cell_below hb1 (hHeld.2.2.2.2.2)⟩ (fun hHeld => ?_)
  clear hK K
  refine norm_ (a' := ?_) ?_ ?_
  rotate_left
  · show Act.put _ (some 38) _ = _
    simp only [Act.put, List.setIfInBounds_toArray, List.set_cons_zero, List.set_cons_succ, i64_w, i32_w]
    rfl
  refine one_ (i := 14) (N := some 45) #[true, true, true, true, true, true, true, true, true, true, true, true, true, true, true, true, false, false, false, false] rfl rfl (by kernel_rfl) (by decide) (fun K hK => ?_)
  refine goes_ Try.func20 (by kernel_rfl) rfl _ (by rfl) rfl rfl (by simp only [List.map_toArray, List.map_cons, List.map_nil]; rfl) ?_
  refine (of_calls bu bv bhd _).mono ?_
  rintro e w8 ⟨p2, q2, hp2, hq2, rfl, hb2⟩
  refine ⟨_, rfl, ?_⟩
  have hB := below_step hB hb2
  refine hK.out _ _ ⟨pw_cell_below hb2 (hHeld.1), pw_cell_below hb2 (hHeld.2.1), pw_cell_below hb2 (hHeld.2.2.1), pw_cell_below hb2 (hHeld.2.2.2.1), pw_cell_below hb2 (hHeld.2.2.2.2.1), pw_cell_below hb2 (hHeld.2.2.2.2.2)⟩ (fun hHeld => ?_)
  clear hK K
  refine norm_ (a' := ?_) ?_ ?_
  rotate_left
  · show Act.put _ (some 45) _ = _
    simp only [Act.put, List.setIfInBounds_toArray, List.set_cons_zero, List.set_cons_succ, i64_w, i32_w]
    rfl
  refine one_ (i := 16) (N := some 47) #[true, true, true, true, true, true, true, true, true, true, true, true, true, true, true, true, true, false, false, false] rfl rfl (by kernel_rfl) (by decide) (fun K hK => ?_)
  refine goes_ Try.func12 (by kernel_rfl) rfl _ (by rfl) rfl rfl (by simp only [List.map_toArray, List.map_cons, List.map_nil]; rfl) ?_
  refine (mix_calls p1 q1 _ p2 q2 _ t _).mono ?_
  rintro e w8 ⟨x3, y3, z3, hx3, hy3, hz3, rfl, hb3⟩
  refine ⟨_, rfl, ?_⟩
  have hB := below_step hB hb3
  refine hK.out _ _ ⟨pw_cell_below hb3 (hHeld.1), pw_cell_below hb3 (hHeld.2.1), pw_cell_below hb3 (hHeld.2.2.1), pw_cell_below hb3 (hHeld.2.2.2.1), pw_cell_below hb3 (hHeld.2.2.2.2.1), pw_cell_below hb3 (hHeld.2.2.2.2.2)⟩ (fun hHeld => ?_)
  clear hK K
  refine norm_ (a' := ?_) ?_ ?_
  rotate_left
  · show Act.put _ (some 47) _ = _
    simp only [Act.put, List.setIfInBounds_toArray, List.set_cons_zero, List.set_cons_succ, i64_w, i32_w]
    rfl
  refine one_ (i := 17) (N := some 48) #[true, true, true, true, true, true, true, true, true, true, true, true, true, true, true, true, true, true, false, false] rfl rfl (by kernel_rfl) (by decide) (fun K hK => ?_)
  refine value_ (w1 := ?_) (v := ?_) (by rfl) rfl ?_ ?_
  rotate_left 2
  · go_simp
    constructor
    · rfl
    · rfl
  refine hK.out _ _ ⟨pw_cell_below (below_alloc (Below.refl _ _) _) (hHeld.1), pw_cell_below (below_alloc (Below.refl _ _) _) (hHeld.2.1), pw_cell_below (below_alloc (Below.refl _ _) _) (hHeld.2.2.1), pw_cell_below (below_alloc (Below.refl _ _) _) (hHeld.2.2.2.1), pw_cell_below (below_alloc (Below.refl _ _) _) (hHeld.2.2.2.2.1), pw_cell_below (below_alloc (Below.refl _ _) _) (hHeld.2.2.2.2.2)⟩ (fun hHeld => ?_)
  clear hK K
  refine norm_ (a' := ?_) ?_ ?_
  rotate_left
  · show Act.put _ (some 48) _ = _
    simp only [Act.put, List.setIfInBounds_toArray, List.set_cons_zero, List.set_cons_succ, i64_w, i32_w]
    rfl
  refine last_ (i := 18) (N := some 49) #[true, true, true, true, true, true, true, true, true, true, true, true, true, true, true, true, true, true, true, false] rfl rfl (by kernel_rfl) (by decide) (fun K hK => ?_)
  refine step_append_cells (w0 := w2) w2.heap.size (by rfl) (.tmp 31) (.tmp 48) 51 24 (.agg #[.float .f32 0, .float .f32 0, .float .f32 0]) 3 12 rfl Try.underlying51 (by kernel_rfl) rfl (by decide) (by decide) _ 0 [] [.float .f32 x3, .float .f32 y3, .float .f32 z3] rfl rfl rfl (by simp [Value.oneCell']) (own_nil _ _ _ _) hB hB.size (by omega) ?_
  intro v9 w9 hown9 hB9 hg9 hat9
  refine hK.out _ _ ?_
  clear hK K
  refine norm_ (a' := ?_) ?_ ?_
  rotate_left
  · show Act.put _ (some 49) _ = _
    simp only [Act.put, List.setIfInBounds_toArray, List.set_cons_zero, List.set_cons_succ, i64_w, i32_w]
    rfl
  refine pure_ (i := 19) (N := some 7) (v := ?_) (a' := ?_) #[true, true, true, true, true, true, true, true, true, true, true, true, true, true, true, true, true, true, true, true] rfl rfl (by kernel_rfl) (fun _ _ _ h => h) (Or.inl ⟨by rfl, ?_⟩) ?_ ?_
  rotate_left
  · intro w'
    go_simp
    with_reducible rfl
  rotate_left
  · simp only [Act.put, List.setIfInBounds_toArray, List.set_cons_zero, List.set_cons_succ, i64_w, i32_w]
    rfl
  refine done_ (by kernel_rfl) ?_
  have hown := own_one hown9
  have HPF := Aside0.mk ((PFs.refl []).snoc (pf_mix (p := ofP au av ahd) (q := ofP bu bv bhd) hx3 hy3 hz3 hp1 hq1 (Fe.refl _) hp2 hq2 (Fe.refl _)))
  clear hB hown9 hx3 hy3 hz3 hp1 hq1 hp2 hq2
  have hB := hB9
  clear hB9 cg3_15
  have cg3_15 : w9.cell? ⟨g3, 15, none⟩ = some (.slice aA an ac) := (blk_cell (blk_below Xg3 hB) 15).trans rfl
  go_wp2_with fail
  go_loopw [7, 53] (fun v i wr => ∃ (k : Nat) (ps : List P3), k ≤ an ∧ i = .int .i64 k ∧ Aside0 (OwnP wr w2.heap.size v ps) ∧ Aside0 (PFs ps (ownB apl bpl awt bwt (ofP au av ahd) (ofP bu bv bhd) t ++ seenB (ss.take k) rs t)) ∧ Aside0 (Below w2.heap.size w2 wr)) (fun _ i _ => an - (intOf i).toNat)
  case atStart => exact ⟨0, _, Nat.zero_le _, rfl, ⟨hown⟩, ⟨by rw [List.take_zero, seenB_nil, List.append_nil, HO.out]; exact HPF.out⟩, ⟨hB⟩⟩
  case round =>
    clear hown HPF hB cg3_1 cg3_3 cg3_4 cg3_7 cg3_12 cg3_15 cg4_1 cg4_3 cg4_4 cg4_7 cg4_12 cg4_15
    obtain ⟨k, ps, hk, rfl, HW, HP, HB⟩ := hrel
    have hown := HW.out
    have hB := HB.out
    clear HW HB
    obtain ⟨vo, rfl⟩ : ∃ vo, vo = u7 := ⟨_, rfl⟩
    obtain ⟨wo, rfl⟩ : ∃ wo, wo = wr := ⟨_, rfl⟩
    by_cases hlt : k < an
    · obtain ⟨ad, eA, hc⟩ := (hS2.below hB).at_ k hlt
      subst eA
      have hlk : k < ss.length := by rw [hS2.len]; exact hlt
      have hle : ps.length * 12 + 12 ≤ 140737488355328 := ps_bound HP.out (ownB_le _ _ _ _ _ _ _) hlt hn
      have HST := Aside0.mk (seenB_step ss rs t k hlk)
      generalize ss.getD k default = s at hc HST
      have hc : At wo (ad.add (k * 5)) [.int .i64 s.ki, .int .i64 s.id, .int .i64 s.x, .int .i64 s.y, .int .i64 s.hd] := hc
      have hk2 : (k : Int) < (an : Int) := Int.ofNat_lt.mpr hlt
      have hk0 : (0 : Int) ≤ k := Int.natCast_nonneg k
      go_wp2_with (first
        | ((with_reducible refine gate_dst (N := 56) rfl ?_); refine wpList_load_at rfl 55 (.tmp 55) rfl _ rfl [.int .i64 s.ki, .int .i64 s.id, .int .i64 s.x, .int .i64 s.y, .int .i64 s.hd] _ Try.underlying55 rfl (by kernel_rfl) hc ?_)
        | ((with_reducible refine gate_dst (N := 9) rfl ?_); refine box_event ?hg (N := 9) ?hd (cs := #[.int .i64 0, .int .i64 0, .int .i64 0, .int .i64 0, .int .i64 0]) (t := 55) ?hr ?_; (case hd => rfl); (case hg => rfl); (case hr => first | (go_simp; done) | (go_simp; rfl)); intro g9 eg9 w5 Xg9 Bg9; have hg9 : wo.heap.size ≤ g9 := Nat.le_of_eq eg9.symm; clear eg9)
        | ((with_reducible refine gate_store (t := 55) (p := 9) rfl ?_); refine wpList_store_blk rfl 55 (.tmp 9) (.tmp 56) rfl g9 [.int .i64 s.ki, .int .i64 s.id, .int .i64 s.x, .int .i64 s.y, .int .i64 s.hd] rfl rfl 55 _ Xg9 (by kernel_rfl) rfl rfl ?_; intro w6 Xs hb6 hk6 hz6; have hBr := hb6 _ _ Bg9 hg9; have hB6 := below_step hB hBr; have hown6 := pw_own_below hown hBr; clear hb6 hk6 Xg9 Bg9; have Xg9 := Xs; clear Xs; have cg9_0 : w6.cell? ⟨g9, 0, none⟩ = some (.int .i64 s.ki) := (blk_cell Xg9 0).trans rfl; have cg9_1 : w6.cell? ⟨g9, 1, none⟩ = some (.int .i64 s.id) := (blk_cell Xg9 1).trans rfl; have cg9_2 : w6.cell? ⟨g9, 2, none⟩ = some (.int .i64 s.x) := (blk_cell Xg9 2).trans rfl; have cg9_3 : w6.cell? ⟨g9, 3, none⟩ = some (.int .i64 s.y) := (blk_cell Xg9 3).trans rfl; have cg9_4 : w6.cell? ⟨g9, 4, none⟩ = some (.int .i64 s.hd) := (blk_cell Xg9 4).trans rfl; have cg4_15 : w6.cell? ⟨g4, 15, none⟩ = some (.slice bA bn bc) := (blk_cell (blk_below Xg4 hB6) 15).trans rfl))
      go_loopw [7, 60] (fun v j wi => ∃ m : Nat, m ≤ bn ∧ j = .int .i64 m ∧ v = vo ∧ Aside0 (Apart s rs m) ∧ Aside0 (Below w6.heap.size w6 wi)) (fun _ j _ => bn - (intOf j).toNat)
      case atStart => exact ⟨0, Nat.zero_le _, rfl, rfl, ⟨Apart.zero _ _⟩, ⟨Below.refl _ _⟩⟩
      case round =>
        clear cg4_15 cg9_0 cg9_1 cg9_2 cg9_3 cg9_4
        obtain ⟨m, hmb, rfl, hv, HA, HBi⟩ := hrel
        have hBi := HBi.out
        clear HBi
        subst hv
        obtain ⟨wi, rfl⟩ : ∃ wi, wi = wr := ⟨_, rfl⟩
        have hown := pw_own_below hown6 hBi
        have hB := below_step hB6 hBi
        have Xg9 := blk_below Xg9 hBi
        clear hown6 hB6
        by_cases hlm : m < bn
        · obtain ⟨bd, eB, hd⟩ := (hR2.below hB).at_ m hlm
          subst eB
          have hlr : m < rs.length := by rw [hR2.len]; exact hlm
          obtain ⟨r, hr⟩ : ∃ r, rs.getD m default = r := ⟨_, rfl⟩
          rw [hr] at hd
          have HR := Aside0.mk hr
          clear hr
          have hd : At wi (bd.add (m * 5)) [.int .i64 r.ki, .int .i64 r.id, .int .i64 r.x, .int .i64 r.y, .int .i64 r.hd] := hd
          have hm2 : (m : Int) < (bn : Int) := Int.ofNat_lt.mpr hlm
          have hm0 : (0 : Int) ≤ m := Int.natCast_nonneg m
          by_cases h4 : s.ki = r.ki
          · have e4 : (s.ki == r.ki) = true := beq_iff_eq.2 h4
            by_cases h5 : s.id = r.id
            · have e5 : (s.id == r.id) = true := beq_iff_eq.2 h5
              have HM := Aside0.mk (hits_some (t := t) HA.out hlr (by rw [HR.out]; exact meets_yes h4 h5))
              rw [HR.out] at HM
              clear h4 h5
              go_wp2_with (first
                | ((with_reducible refine gate_dst (N := 63) rfl ?_); refine wpList_load_at rfl 55 (.tmp 62) rfl _ rfl [.int .i64 r.ki, .int .i64 r.id, .int .i64 r.x, .int .i64 r.y, .int .i64 r.hd] _ Try.underlying55 rfl (by kernel_rfl) hd ?_)
                | ((with_reducible refine gate_dst (N := 11) rfl ?_); refine box_event ?hg (N := 11) ?hd (cs := #[.int .i64 0, .int .i64 0, .int .i64 0, .int .i64 0, .int .i64 0]) (t := 55) ?hr ?_; (case hd => rfl); (case hg => rfl); (case hr => first | (go_simp; done) | (go_simp; rfl)); intro g11 eg11 w15 Xg11 Bg11; have hg11 : wi.heap.size ≤ g11 := Nat.le_of_eq eg11.symm; have n11 : g9 ≠ g11 := (by have := blk_lt Xg9; omega); clear eg11)
                | ((with_reducible refine gate_store (t := 55) (p := 11) rfl ?_); refine wpList_store_blk rfl 55 (.tmp 11) (.tmp 63) rfl g11 [.int .i64 r.ki, .int .i64 r.id, .int .i64 r.x, .int .i64 r.y, .int .i64 r.hd] rfl rfl 55 _ Xg11 (by kernel_rfl) rfl rfl ?_; intro w16 Xs hb6 hk6 hz6; have hBr := hb6 _ _ Bg11 hg11; have hB := below_step hB hBr; have hBi := below_step hBi hBr; have hown := pw_own_below hown hBr; have Xg9 := blk_below Xg9 hBr; have hsz := hBr.size; clear hb6 hk6 Xg11 Bg11 hBr; have Xg11 := Xs; clear Xs; have cg9_0 : w16.cell? ⟨g9, 0, none⟩ = some (.int .i64 s.ki) := (blk_cell Xg9 0).trans rfl; have cg9_1 : w16.cell? ⟨g9, 1, none⟩ = some (.int .i64 s.id) := (blk_cell Xg9 1).trans rfl; have cg9_2 : w16.cell? ⟨g9, 2, none⟩ = some (.int .i64 s.x) := (blk_cell Xg9 2).trans rfl; have cg9_3 : w16.cell? ⟨g9, 3, none⟩ = some (.int .i64 s.y) := (blk_cell Xg9 3).trans rfl; have cg9_4 : w16.cell? ⟨g9, 4, none⟩ = some (.int .i64 s.hd) := (blk_cell Xg9 4).trans rfl; have cg11_0 : w16.cell? ⟨g11, 0, none⟩ = some (.int .i64 r.ki) := (blk_cell Xg11 0).trans rfl; have cg11_1 : w16.cell? ⟨g11, 1, none⟩ = some (.int .i64 r.id) := (blk_cell Xg11 1).trans rfl; have cg11_2 : w16.cell? ⟨g11, 2, none⟩ = some (.int .i64 r.x) := (blk_cell Xg11 2).trans rfl; have cg11_3 : w16.cell? ⟨g11, 3, none⟩ = some (.int .i64 r.y) := (blk_cell Xg11 3).trans rfl; have cg11_4 : w16.cell? ⟨g11, 4, none⟩ = some (.int .i64 r.hd) := (blk_cell Xg11 4).trans rfl))
              refine start_ (n := 16) (S := fun w' => w'.cell? ⟨g9, 2, none⟩ = some (.int .i64 s.x) ∧ w'.cell? ⟨g9, 3, none⟩ = some (.int .i64 s.y) ∧ w'.cell? ⟨g9, 4, none⟩ = some (.int .i64 s.hd) ∧ w'.cell? ⟨g11, 2, none⟩ = some (.int .i64 r.x) ∧ w'.cell? ⟨g11, 3, none⟩ = some (.int .i64 r.y) ∧ w'.cell? ⟨g11, 4, none⟩ = some (.int .i64 r.hd)) (ds := [14]) #[false, false, false, false, false, false, false, false, false, false, false, false, false, false, false, false] (by kernel_rfl) rfl rfl ⟨cg9_2, cg9_3, cg9_4, cg11_2, cg11_3, cg11_4⟩ (fun hHeld => ?_)
              refine pure_ (i := 0) (N := some 76) (v := ?_) (a' := ?_) #[true, false, false, false, false, false, false, false, false, false, false, false, false, false, false, false] rfl rfl (by kernel_rfl) (fun _ _ _ h => h) (Or.inl ⟨by rfl, ?_⟩) ?_ ?_
              rotate_left
              · intro w'
                go_simp
                with_reducible rfl
              rotate_left
              · simp only [Act.put, List.setIfInBounds_toArray, List.set_cons_zero, List.set_cons_succ, i64_w, i32_w]
                rfl
              refine pure_ (i := 1) (N := some 77) (v := ?_) (a' := ?_) #[true, true, false, false, false, false, false, false, false, false, false, false, false, false, false, false] rfl rfl (by kernel_rfl) (fun _ _ _ h => h) (Or.inl ⟨by rfl, ?_⟩) ?_ ?_
              rotate_left
              · intro w'
                go_simp
                with_reducible rfl
              rotate_left
              · simp only [Act.put, List.setIfInBounds_toArray, List.set_cons_zero, List.set_cons_succ, i64_w, i32_w]
                rfl
              refine pure_ (i := 3) (N := some 79) (v := ?_) (a' := ?_) #[true, true, false, true, false, false, false, false, false, false, false, false, false, false, false, false] rfl rfl (by kernel_rfl) (fun _ _ _ h => h) (Or.inl ⟨by rfl, ?_⟩) ?_ ?_
              rotate_left
              · intro w'
                go_simp
                with_reducible rfl
              rotate_left
              · simp only [Act.put, List.setIfInBounds_toArray, List.set_cons_zero, List.set_cons_succ, i64_w, i32_w]
                rfl
              refine pure_ (i := 6) (N := some 82) (v := ?_) (a' := ?_) #[true, true, false, true, false, false, true, false, false, false, false, false, false, false, false, false] rfl rfl (by kernel_rfl) (fun _ _ _ h => h) (Or.inl ⟨by rfl, ?_⟩) ?_ ?_
              rotate_left
              · intro w'
                go_simp
                with_reducible rfl
              rotate_left
              · simp only [Act.put, List.setIfInBounds_toArray, List.set_cons_zero, List.set_cons_succ, i64_w, i32_w]
                rfl
              refine pure_ (i := 8) (N := some 84) (v := ?_) (a' := ?_) #[true, true, false, true, false, false, true, false, true, false, false, false, false, false, false, false] rfl rfl (by kernel_rfl) (fun _ _ _ h => h) (Or.inl ⟨by rfl, ?_⟩) ?_ ?_
              rotate_left
              · intro w'
                go_simp
                with_reducible rfl
              rotate_left
              · simp only [Act.put, List.setIfInBounds_toArray, List.set_cons_zero, List.set_cons_succ, i64_w, i32_w]
                rfl
              refine pure_ (i := 11) (N := some 87) (v := ?_) (a' := ?_) #[true, true, false, true, false, false, true, false, true, false, false, true, false, false, false, false] rfl rfl (by kernel_rfl) (fun _ _ _ h => h) (Or.inl ⟨by rfl, ?_⟩) ?_ ?_
              rotate_left
              · intro w'
                go_simp
                with_reducible rfl
              rotate_left
              · simp only [Act.put, List.setIfInBounds_toArray, List.set_cons_zero, List.set_cons_succ, i64_w, i32_w]
                rfl
              refine take_ (i := 2) (N := some 78) (v := ?_) (a' := ?_) #[true, true, true, true, false, false, true, false, true, false, false, true, false, false, false, false] rfl rfl (by kernel_rfl) (fun _ _ _ h => h) (Or.inl ⟨by rfl, ?_⟩) hHeld ?_ ?_
              rotate_left
              · rintro w' ⟨s0, s1, s2, s3, s4, s5⟩
                go_simp
                with_reducible rfl
              rotate_left
              · simp only [Act.put, List.setIfInBounds_toArray, List.set_cons_zero, List.set_cons_succ, i64_w, i32_w]
                rfl
              refine take_ (i := 4) (N := some 80) (v := ?_) (a' := ?_) #[true, true, true, true, true, false, true, false, true, false, false, true, false, false, false, false] rfl rfl (by kernel_rfl) (fun _ _ _ h => h) (Or.inl ⟨by rfl, ?_⟩) hHeld ?_ ?_
              rotate_left
              · rintro w' ⟨s0, s1, s2, s3, s4, s5⟩
                go_simp
                with_reducible rfl
              rotate_left
              · simp only [Act.put, List.setIfInBounds_toArray, List.set_cons_zero, List.set_cons_succ, i64_w, i32_w]
                rfl
              refine take_ (i := 7) (N := some 83) (v := ?_) (a' := ?_) #[true, true, true, true, true, false, true, true, true, false, false, true, false, false, false, false] rfl rfl (by kernel_rfl) (fun _ _ _ h => h) (Or.inl ⟨by rfl, ?_⟩) hHeld ?_ ?_
              rotate_left
              · rintro w' ⟨s0, s1, s2, s3, s4, s5⟩
                go_simp
                with_reducible rfl
              rotate_left
              · simp only [Act.put, List.setIfInBounds_toArray, List.set_cons_zero, List.set_cons_succ, i64_w, i32_w]
                rfl
              refine take_ (i := 9) (N := some 85) (v := ?_) (a' := ?_) #[true, true, true, true, true, false, true, true, true, true, false, true, false, false, false, false] rfl rfl (by kernel_rfl) (fun _ _ _ h => h) (Or.inl ⟨by rfl, ?_⟩) hHeld ?_ ?_
              rotate_left
              · rintro w' ⟨s0, s1, s2, s3, s4, s5⟩
                go_simp
                with_reducible rfl
              rotate_left
              · simp only [Act.put, List.setIfInBounds_toArray, List.set_cons_zero, List.set_cons_succ, i64_w, i32_w]
                rfl
              refine one_ (i := 5) (N := some 81) #[true, true, true, true, true, true, true, true, true, true, false, true, false, false, false, false] rfl rfl (by kernel_rfl) (by decide) (fun K hK => ?_)
              refine goes_ Try.func20 (by kernel_rfl) rfl _ (by rfl) rfl rfl (by simp only [List.map_toArray, List.map_cons, List.map_nil]; rfl) ?_
              refine (of_calls s.x s.y s.hd _).mono ?_
              rintro e w8 ⟨p1, q1, hp1, hq1, rfl, hb1⟩
              refine ⟨_, rfl, ?_⟩
              have hB := below_step (below_drew1 hB) hb1
              have hown := pw_own_below (own_drew hown) hb1
              refine hK.out _ _ ⟨pw_cell_below hb1 (hHeld.1), pw_cell_below hb1 (hHeld.2.1), pw_cell_below hb1 (hHeld.2.2.1), pw_cell_below hb1 (hHeld.2.2.2.1), pw_cell_below hb1 (hHeld.2.2.2.2.1), pw_cell_below hb1 (hHeld.2.2.2.2.2)⟩ (fun hHeld => ?_)
              clear hK K
              refine norm_ (a' := ?_) ?_ ?_
              rotate_left
              · show Act.put _ (some 81) _ = _
                simp only [Act.put, List.setIfInBounds_toArray, List.set_cons_zero, List.set_cons_succ, i64_w, i32_w]
                rfl
              refine one_ (i := 10) (N := some 86) #[true, true, true, true, true, true, true, true, true, true, true, true, false, false, false, false] rfl rfl (by kernel_rfl) (by decide) (fun K hK => ?_)
              refine goes_ Try.func20 (by kernel_rfl) rfl _ (by rfl) rfl rfl (by simp only [List.map_toArray, List.map_cons, List.map_nil]; rfl) ?_
              refine (of_calls r.x r.y r.hd _).mono ?_
              rintro e w8 ⟨p2, q2, hp2, hq2, rfl, hb2⟩
              refine ⟨_, rfl, ?_⟩
              have hB := below_step hB hb2
              have hown := pw_own_below hown hb2
              refine hK.out _ _ ⟨pw_cell_below hb2 (hHeld.1), pw_cell_below hb2 (hHeld.2.1), pw_cell_below hb2 (hHeld.2.2.1), pw_cell_below hb2 (hHeld.2.2.2.1), pw_cell_below hb2 (hHeld.2.2.2.2.1), pw_cell_below hb2 (hHeld.2.2.2.2.2)⟩ (fun hHeld => ?_)
              clear hK K
              refine norm_ (a' := ?_) ?_ ?_
              rotate_left
              · show Act.put _ (some 86) _ = _
                simp only [Act.put, List.setIfInBounds_toArray, List.set_cons_zero, List.set_cons_succ, i64_w, i32_w]
                rfl
              refine one_ (i := 12) (N := some 88) #[true, true, true, true, true, true, true, true, true, true, true, true, true, false, false, false] rfl rfl (by kernel_rfl) (by decide) (fun K hK => ?_)
              refine goes_ Try.func12 (by kernel_rfl) rfl _ (by rfl) rfl rfl (by simp only [List.map_toArray, List.map_cons, List.map_nil]; rfl) ?_
              refine (mix_calls p1 q1 _ p2 q2 _ t _).mono ?_
              rintro e w8 ⟨x3, y3, z3, hx3, hy3, hz3, rfl, hb3⟩
              refine ⟨_, rfl, ?_⟩
              have hB := below_step hB hb3
              have hown := pw_own_below hown hb3
              refine hK.out _ _ ⟨pw_cell_below hb3 (hHeld.1), pw_cell_below hb3 (hHeld.2.1), pw_cell_below hb3 (hHeld.2.2.1), pw_cell_below hb3 (hHeld.2.2.2.1), pw_cell_below hb3 (hHeld.2.2.2.2.1), pw_cell_below hb3 (hHeld.2.2.2.2.2)⟩ (fun hHeld => ?_)
              clear hK K
              refine norm_ (a' := ?_) ?_ ?_
              rotate_left
              · show Act.put _ (some 88) _ = _
                simp only [Act.put, List.setIfInBounds_toArray, List.set_cons_zero, List.set_cons_succ, i64_w, i32_w]
                rfl
              refine one_ (i := 13) (N := some 89) #[true, true, true, true, true, true, true, true, true, true, true, true, true, true, false, false] rfl rfl (by kernel_rfl) (by decide) (fun K hK => ?_)
              refine value_ (w1 := ?_) (v := ?_) (by rfl) rfl ?_ ?_
              rotate_left 2
              · go_simp
                constructor
                · rfl
                · rfl
              refine hK.out _ _ ⟨pw_cell_below (below_alloc (Below.refl _ _) _) (hHeld.1), pw_cell_below (below_alloc (Below.refl _ _) _) (hHeld.2.1), pw_cell_below (below_alloc (Below.refl _ _) _) (hHeld.2.2.1), pw_cell_below (below_alloc (Below.refl _ _) _) (hHeld.2.2.2.1), pw_cell_below (below_alloc (Below.refl _ _) _) (hHeld.2.2.2.2.1), pw_cell_below (below_alloc (Below.refl _ _) _) (hHeld.2.2.2.2.2)⟩ (fun hHeld => ?_)
              clear hK K
              refine norm_ (a' := ?_) ?_ ?_
              rotate_left
              · show Act.put _ (some 89) _ = _
                simp only [Act.put, List.setIfInBounds_toArray, List.set_cons_zero, List.set_cons_succ, i64_w, i32_w]
                rfl
              refine last_ (i := 14) (N := some 90) #[true, true, true, true, true, true, true, true, true, true, true, true, true, true, true, false] rfl rfl (by kernel_rfl) (by decide) (fun K hK => ?_)
              refine step_append_cells (w0 := w2) w2.heap.size (by rfl) (.tmp 76) (.tmp 89) 51 24 (.agg #[.float .f32 0, .float .f32 0, .float .f32 0]) 3 12 rfl Try.underlying51 (by kernel_rfl) rfl (by decide) (by decide) _ ps.length (rowP ps) [.float .f32 x3, .float .f32 y3, .float .f32 z3] rfl rfl rfl (by simp [Value.oneCell']) hown hB hB.size (by omega) ?_
              intro v9 w9 hown9 hB9 hg9 hat9
              refine hK.out _ _ ?_
              clear hK K
              refine norm_ (a' := ?_) ?_ ?_
              rotate_left
              · show Act.put _ (some 90) _ = _
                simp only [Act.put, List.setIfInBounds_toArray, List.set_cons_zero, List.set_cons_succ, i64_w, i32_w]
                rfl
              refine pure_ (i := 15) (N := some 7) (v := ?_) (a' := ?_) #[true, true, true, true, true, true, true, true, true, true, true, true, true, true, true, true] rfl rfl (by kernel_rfl) (fun _ _ _ h => h) (Or.inl ⟨by rfl, ?_⟩) ?_ ?_
              rotate_left
              · intro w'
                go_simp
                with_reducible rfl
              rotate_left
              · simp only [Act.put, List.setIfInBounds_toArray, List.set_cons_zero, List.set_cons_succ, i64_w, i32_w]
                rfl
              refine done_ (by kernel_rfl) ?_

              have hown := own_more hown9
              have HPN := Aside0.mk (HP.out.snoc (pf_mix (p := s.p) (q := r.p) hx3 hy3 hz3 hp1 hq1 (Fe.refl _) hp2 hq2 (Fe.refl _)))
              have hB := hB9
              clear hown9 hB9 hx3 hy3 hz3 hp1 hq1 hp2 hq2
              go_wp2
              go_roundw
              case rel => exact ⟨k + 1, _, by omega, by go_num, ⟨hown⟩, ⟨by rw [HST.out, HM.out, ← List.append_assoc]; exact HPN.out⟩, ⟨hB⟩⟩
              case measure => simp [intOf]; omega
            · have e5 : (s.id == r.id) = false := beq_eq_false_iff_ne.2 h5
              have HA2 := Aside0.mk (HA.out.step (by rw [HR.out]; exact meets_no2 h5))
              clear h4 h5
              go_wp2_with (first
                | ((with_reducible refine gate_dst (N := 63) rfl ?_); refine wpList_load_at rfl 55 (.tmp 62) rfl _ rfl [.int .i64 r.ki, .int .i64 r.id, .int .i64 r.x, .int .i64 r.y, .int .i64 r.hd] _ Try.underlying55 rfl (by kernel_rfl) hd ?_)
                | ((with_reducible refine gate_dst (N := 11) rfl ?_); refine box_event ?hg (N := 11) ?hd (cs := #[.int .i64 0, .int .i64 0, .int .i64 0, .int .i64 0, .int .i64 0]) (t := 55) ?hr ?_; (case hd => rfl); (case hg => rfl); (case hr => first | (go_simp; done) | (go_simp; rfl)); intro g11 eg11 w15 Xg11 Bg11; have hg11 : wi.heap.size ≤ g11 := Nat.le_of_eq eg11.symm; have n11 : g9 ≠ g11 := (by have := blk_lt Xg9; omega); clear eg11)
                | ((with_reducible refine gate_store (t := 55) (p := 11) rfl ?_); refine wpList_store_blk rfl 55 (.tmp 11) (.tmp 63) rfl g11 [.int .i64 r.ki, .int .i64 r.id, .int .i64 r.x, .int .i64 r.y, .int .i64 r.hd] rfl rfl 55 _ Xg11 (by kernel_rfl) rfl rfl ?_; intro w16 Xs hb6 hk6 hz6; have hBr := hb6 _ _ Bg11 hg11; have hB := below_step hB hBr; have hBi := below_step hBi hBr; have hown := pw_own_below hown hBr; have Xg9 := blk_below Xg9 hBr; have hsz := hBr.size; clear hb6 hk6 Xg11 Bg11 hBr; have Xg11 := Xs; clear Xs; have cg9_0 : w16.cell? ⟨g9, 0, none⟩ = some (.int .i64 s.ki) := (blk_cell Xg9 0).trans rfl; have cg9_1 : w16.cell? ⟨g9, 1, none⟩ = some (.int .i64 s.id) := (blk_cell Xg9 1).trans rfl; have cg9_2 : w16.cell? ⟨g9, 2, none⟩ = some (.int .i64 s.x) := (blk_cell Xg9 2).trans rfl; have cg9_3 : w16.cell? ⟨g9, 3, none⟩ = some (.int .i64 s.y) := (blk_cell Xg9 3).trans rfl; have cg9_4 : w16.cell? ⟨g9, 4, none⟩ = some (.int .i64 s.hd) := (blk_cell Xg9 4).trans rfl; have cg11_0 : w16.cell? ⟨g11, 0, none⟩ = some (.int .i64 r.ki) := (blk_cell Xg11 0).trans rfl; have cg11_1 : w16.cell? ⟨g11, 1, none⟩ = some (.int .i64 r.id) := (blk_cell Xg11 1).trans rfl; have cg11_2 : w16.cell? ⟨g11, 2, none⟩ = some (.int .i64 r.x) := (blk_cell Xg11 2).trans rfl; have cg11_3 : w16.cell? ⟨g11, 3, none⟩ = some (.int .i64 r.y) := (blk_cell Xg11 3).trans rfl; have cg11_4 : w16.cell? ⟨g11, 4, none⟩ = some (.int .i64 r.hd) := (blk_cell Xg11 4).trans rfl))
              go_roundw
              case rel => exact ⟨m + 1, by omega, by go_num, rfl, HA2, ⟨hBi⟩⟩
              case measure => simp [intOf]; omega
          · have e4 : (s.ki == r.ki) = false := beq_eq_false_iff_ne.2 h4
            have HA2 := Aside0.mk (HA.out.step (by rw [HR.out]; exact meets_no1 h4))
            clear h4
            go_wp2_with (first
                | ((with_reducible refine gate_dst (N := 63) rfl ?_); refine wpList_load_at rfl 55 (.tmp 62) rfl _ rfl [.int .i64 r.ki, .int .i64 r.id, .int .i64 r.x, .int .i64 r.y, .int .i64 r.hd] _ Try.underlying55 rfl (by kernel_rfl) hd ?_)
                | ((with_reducible refine gate_dst (N := 11) rfl ?_); refine box_event ?hg (N := 11) ?hd (cs := #[.int .i64 0, .int .i64 0, .int .i64 0, .int .i64 0, .int .i64 0]) (t := 55) ?hr ?_; (case hd => rfl); (case hg => rfl); (case hr => first | (go_simp; done) | (go_simp; rfl)); intro g11 eg11 w15 Xg11 Bg11; have hg11 : wi.heap.size ≤ g11 := Nat.le_of_eq eg11.symm; have n11 : g9 ≠ g11 := (by have := blk_lt Xg9; omega); clear eg11)
                | ((with_reducible refine gate_store (t := 55) (p := 11) rfl ?_); refine wpList_store_blk rfl 55 (.tmp 11) (.tmp 63) rfl g11 [.int .i64 r.ki, .int .i64 r.id, .int .i64 r.x, .int .i64 r.y, .int .i64 r.hd] rfl rfl 55 _ Xg11 (by kernel_rfl) rfl rfl ?_; intro w16 Xs hb6 hk6 hz6; have hBr := hb6 _ _ Bg11 hg11; have hB := below_step hB hBr; have hBi := below_step hBi hBr; have hown := pw_own_below hown hBr; have Xg9 := blk_below Xg9 hBr; have hsz := hBr.size; clear hb6 hk6 Xg11 Bg11 hBr; have Xg11 := Xs; clear Xs; have cg9_0 : w16.cell? ⟨g9, 0, none⟩ = some (.int .i64 s.ki) := (blk_cell Xg9 0).trans rfl; have cg9_1 : w16.cell? ⟨g9, 1, none⟩ = some (.int .i64 s.id) := (blk_cell Xg9 1).trans rfl; have cg9_2 : w16.cell? ⟨g9, 2, none⟩ = some (.int .i64 s.x) := (blk_cell Xg9 2).trans rfl; have cg9_3 : w16.cell? ⟨g9, 3, none⟩ = some (.int .i64 s.y) := (blk_cell Xg9 3).trans rfl; have cg9_4 : w16.cell? ⟨g9, 4, none⟩ = some (.int .i64 s.hd) := (blk_cell Xg9 4).trans rfl; have cg11_0 : w16.cell? ⟨g11, 0, none⟩ = some (.int .i64 r.ki) := (blk_cell Xg11 0).trans rfl; have cg11_1 : w16.cell? ⟨g11, 1, none⟩ = some (.int .i64 r.id) := (blk_cell Xg11 1).trans rfl; have cg11_2 : w16.cell? ⟨g11, 2, none⟩ = some (.int .i64 r.x) := (blk_cell Xg11 2).trans rfl; have cg11_3 : w16.cell? ⟨g11, 3, none⟩ = some (.int .i64 r.y) := (blk_cell Xg11 3).trans rfl; have cg11_4 : w16.cell? ⟨g11, 4, none⟩ = some (.int .i64 r.hd) := (blk_cell Xg11 4).trans rfl))
            go_roundw
            case rel => exact ⟨m + 1, by omega, by go_num, rfl, HA2, ⟨hBi⟩⟩
            case measure => simp [intOf]; omega
        · obtain rfl : m = bn := by omega
          have HM := Aside0.mk (hits_none (t := t) (by rw [hR2.len]; exact HA.out))
          go_wp2_with fail
          go_roundw
          case rel => exact ⟨k + 1, _, by omega, by go_num, ⟨hown⟩, ⟨by rw [HST.out, HM.out, List.append_nil]; exact HP.out⟩, ⟨hB⟩⟩
          case measure => simp [intOf]; omega
    · obtain rfl : k = an := by omega
      obtain ⟨A, c, rfl, _, _⟩ := own_prow hown
      have hHP : PFs ps (ownB apl bpl awt bwt (ofP au av ahd) (ofP bu bv bhd) t ++ seenB ss rs t) := by
        have := HP.out
        rwa [List.take_of_length_le (Nat.le_of_eq hS2.len)] at this
      have HP := Aside0.mk hHP
      clear hHP
      go_wp2_with fail
      go_ret
      exact ⟨A, c, ps, rfl, own_less hown hB0.size, HP.out, below_step hB0 hB⟩

set_option maxHeartbeats 8000000 in
set_option maxRecDepth 100000 in
theorem between_calls_3 (atk apl au av avx avy ahd ahe aen aam aco awt asp asc : Int) (anm : ByteArray) (aA : Option Addr) (an ac : Nat) (btk bpl bu bv bvx bvy bhd bhe ben bam bco bwt bsp bsc : Int) (bnm : ByteArray) (bA : Option Addr) (bn bc : Nat) (t : Nat) (w : World) (ss rs : List S5) (hS : SRow w aA an ss) (hR : SRow w bA bn rs) (hn : an * 12 + 12 ≤ 140737488355328) (hm : bn ≤ 9223372036854775807) (h1 : apl = bpl) (h2 : awt ≤ 0) (h3 : ¬ bwt ≤ 0) : Calls Try.prog 26 #[.agg #[.int .u64 atk, .int .i64 apl, .string anm, .int .i64 au, .int .i64 av, .int .i64 avx, .int .i64 avy, .int .i64 ahd, .int .i64 ahe, .int .i64 aen, .int .i64 aam, .int .i64 aco, .int .i64 awt, .int .i64 asp, .int .i64 asc, .slice aA an ac], .agg #[.int .u64 btk, .int .i64 bpl, .string bnm, .int .i64 bu, .int .i64 bv, .int .i64 bvx, .int .i64 bvy, .int .i64 bhd, .int .i64 bhe, .int .i64 ben, .int .i64 bam, .int .i64 bco, .int .i64 bwt, .int .i64 bsp, .int .i64 bsc, .slice bA bn bc], .float .f32 t] w fun e w' => ∃ A c ps, e = .returned (.slice A ps.length c) ∧ OwnP w' w.heap.size (.slice A ps.length c) ps ∧ PFs ps (ownB apl bpl awt bwt (ofP au av ahd) (ofP bu bv bhd) t ++ seenB ss rs t) ∧ Below w.heap.size w w' := by
  have hu47 := Try.underlying47
  have hu40 := Try.underlying40
  have hu38 := Try.underlying38
  have hu55 := Try.underlying55
  have hu45 := Try.underlying45
  have hu51 := Try.underlying51
  have hu24 := Try.underlying24
  have hu3 := Try.underlying3
  have hnn : (an : Int) ≤ 9223372036854775807 := by omega
  have hmm : (bn : Int) ≤ 9223372036854775807 := by omega
  have e1 : (apl == bpl) = true := beq_iff_eq.2 h1
  have d2 : decide (awt ≤ 0) = true := decide_eq_true h2
  have d3 : decide (bwt ≤ 0) = false := decide_eq_false h3
  have h3' : 0 < bwt := by omega
  have HO := Aside0.mk (show ownB apl bpl awt bwt (ofP au av ahd) (ofP bu bv bhd) t = [] from if_neg (fun h => h3 h.2.2))
  clear h1
  go_enter Try.func26, Try.ntmps26
  go_wp2_with (first
        | ((try (refine gate_guard (by rfl) ?_; dsimp only)); refine wpList_fl _ rfl _ _ _ _ _ rfl (by decide) _ _ _ _ rfl rfl (by first | assumption | exact Fe.refl _) (by first | assumption | exact Fe.refl _) ?_; intro z nd hz)
        | ((try (refine gate_guard (by rfl) ?_; dsimp only)); refine wpList_flc _ rfl _ _ _ _ _ rfl (by decide) _ _ _ _ rfl rfl (by first | assumption | exact Fe.refl _) (by first | assumption | exact Fe.refl _) ?_)
        | ((with_reducible refine gate_dst (N := 3) rfl ?_); refine box_event ?hg (N := 3) ?hd (cs := #[.int .u64 atk, .int .i64 apl, .string anm, .int .i64 au, .int .i64 av, .int .i64 avx, .int .i64 avy, .int .i64 ahd, .int .i64 ahe, .int .i64 aen, .int .i64 aam, .int .i64 aco, .int .i64 awt, .int .i64 asp, .int .i64 asc, .slice aA an ac]) (t := 47) ?hr ?_; (case hd => rfl); (case hg => rfl); (case hr => first | (go_simp; done) | (go_simp; rfl)); intro g3 eg3 w1 Xg3 Bg3; clear eg3)
        | ((with_reducible refine gate_dst (N := 4) rfl ?_); refine box_event ?hg (N := 4) ?hd (cs := #[.int .u64 btk, .int .i64 bpl, .string bnm, .int .i64 bu, .int .i64 bv, .int .i64 bvx, .int .i64 bvy, .int .i64 bhd, .int .i64 bhe, .int .i64 ben, .int .i64 bam, .int .i64 bco, .int .i64 bwt, .int .i64 bsp, .int .i64 bsc, .slice bA bn bc]) (t := 47) ?hr ?_; (case hd => rfl); (case hg => rfl); (case hr => first | (go_simp; done) | (go_simp; rfl)); intro g4 eg4 w2 Xg4 Bg4; have Xg3 := blk_below Xg3 Bg4; have hB0 := below_step Bg3 Bg4; have hS2 := (hS.below Bg3).below Bg4; have hR2 := (hR.below Bg3).below Bg4; have hB := Below.refl w2.heap.size w2; have lg3 := blk_lt Xg3; have lg4 := blk_lt Xg4; clear eg4 Bg3 Bg4 hS hR; have cg3_1 : w2.cell? ⟨g3, 1, none⟩ = some (.int .i64 apl) := (blk_cell Xg3 1).trans rfl; have cg3_3 : w2.cell? ⟨g3, 3, none⟩ = some (.int .i64 au) := (blk_cell Xg3 3).trans rfl; have cg3_4 : w2.cell? ⟨g3, 4, none⟩ = some (.int .i64 av) := (blk_cell Xg3 4).trans rfl; have cg3_7 : w2.cell? ⟨g3, 7, none⟩ = some (.int .i64 ahd) := (blk_cell Xg3 7).trans rfl; have cg3_12 : w2.cell? ⟨g3, 12, none⟩ = some (.int .i64 awt) := (blk_cell Xg3 12).trans rfl; have cg3_15 : w2.cell? ⟨g3, 15, none⟩ = some (.slice aA an ac) := (blk_cell Xg3 15).trans rfl; have cg4_1 : w2.cell? ⟨g4, 1, none⟩ = some (.int .i64 bpl) := (blk_cell Xg4 1).trans rfl; have cg4_3 : w2.cell? ⟨g4, 3, none⟩ = some (.int .i64 bu) := (blk_cell Xg4 3).trans rfl; have cg4_4 : w2.cell? ⟨g4, 4, none⟩ = some (.int .i64 bv) := (blk_cell Xg4 4).trans rfl; have cg4_7 : w2.cell? ⟨g4, 7, none⟩ = some (.int .i64 bhd) := (blk_cell Xg4 7).trans rfl; have cg4_12 : w2.cell? ⟨g4, 12, none⟩ = some (.int .i64 bwt) := (blk_cell Xg4 12).trans rfl; have cg4_15 : w2.cell? ⟨g4, 15, none⟩ = some (.slice bA bn bc) := (blk_cell Xg4 15).trans rfl))
  have hown : OwnP w2 w2.heap.size (.slice none 0 0) [] := own_nil _ _ _ _
  have HPF := Aside0.mk (PFs.refl [])
  go_wp2_with fail
  go_loopw [7, 53] (fun v i wr => ∃ (k : Nat) (ps : List P3), k ≤ an ∧ i = .int .i64 k ∧ Aside0 (OwnP wr w2.heap.size v ps) ∧ Aside0 (PFs ps (ownB apl bpl awt bwt (ofP au av ahd) (ofP bu bv bhd) t ++ seenB (ss.take k) rs t)) ∧ Aside0 (Below w2.heap.size w2 wr)) (fun _ i _ => an - (intOf i).toNat)
  case atStart => exact ⟨0, _, Nat.zero_le _, rfl, ⟨hown⟩, ⟨by rw [List.take_zero, seenB_nil, List.append_nil, HO.out]; exact HPF.out⟩, ⟨hB⟩⟩
  case round =>
    clear hown HPF hB cg3_1 cg3_3 cg3_4 cg3_7 cg3_12 cg3_15 cg4_1 cg4_3 cg4_4 cg4_7 cg4_12 cg4_15
    obtain ⟨k, ps, hk, rfl, HW, HP, HB⟩ := hrel
    have hown := HW.out
    have hB := HB.out
    clear HW HB
    obtain ⟨vo, rfl⟩ : ∃ vo, vo = u7 := ⟨_, rfl⟩
    obtain ⟨wo, rfl⟩ : ∃ wo, wo = wr := ⟨_, rfl⟩
    by_cases hlt : k < an
    · obtain ⟨ad, eA, hc⟩ := (hS2.below hB).at_ k hlt
      subst eA
      have hlk : k < ss.length := by rw [hS2.len]; exact hlt
      have hle : ps.length * 12 + 12 ≤ 140737488355328 := ps_bound HP.out (ownB_le _ _ _ _ _ _ _) hlt hn
      have HST := Aside0.mk (seenB_step ss rs t k hlk)
      generalize ss.getD k default = s at hc HST
      have hc : At wo (ad.add (k * 5)) [.int .i64 s.ki, .int .i64 s.id, .int .i64 s.x, .int .i64 s.y, .int .i64 s.hd] := hc
      have hk2 : (k : Int) < (an : Int) := Int.ofNat_lt.mpr hlt
      have hk0 : (0 : Int) ≤ k := Int.natCast_nonneg k
      go_wp2_with (first
        | ((with_reducible refine gate_dst (N := 56) rfl ?_); refine wpList_load_at rfl 55 (.tmp 55) rfl _ rfl [.int .i64 s.ki, .int .i64 s.id, .int .i64 s.x, .int .i64 s.y, .int .i64 s.hd] _ Try.underlying55 rfl (by kernel_rfl) hc ?_)
        | ((with_reducible refine gate_dst (N := 9) rfl ?_); refine box_event ?hg (N := 9) ?hd (cs := #[.int .i64 0, .int .i64 0, .int .i64 0, .int .i64 0, .int .i64 0]) (t := 55) ?hr ?_; (case hd => rfl); (case hg => rfl); (case hr => first | (go_simp; done) | (go_simp; rfl)); intro g9 eg9 w5 Xg9 Bg9; have hg9 : wo.heap.size ≤ g9 := Nat.le_of_eq eg9.symm; clear eg9)
        | ((with_reducible refine gate_store (t := 55) (p := 9) rfl ?_); refine wpList_store_blk rfl 55 (.tmp 9) (.tmp 56) rfl g9 [.int .i64 s.ki, .int .i64 s.id, .int .i64 s.x, .int .i64 s.y, .int .i64 s.hd] rfl rfl 55 _ Xg9 (by kernel_rfl) rfl rfl ?_; intro w6 Xs hb6 hk6 hz6; have hBr := hb6 _ _ Bg9 hg9; have hB6 := below_step hB hBr; have hown6 := pw_own_below hown hBr; clear hb6 hk6 Xg9 Bg9; have Xg9 := Xs; clear Xs; have cg9_0 : w6.cell? ⟨g9, 0, none⟩ = some (.int .i64 s.ki) := (blk_cell Xg9 0).trans rfl; have cg9_1 : w6.cell? ⟨g9, 1, none⟩ = some (.int .i64 s.id) := (blk_cell Xg9 1).trans rfl; have cg9_2 : w6.cell? ⟨g9, 2, none⟩ = some (.int .i64 s.x) := (blk_cell Xg9 2).trans rfl; have cg9_3 : w6.cell? ⟨g9, 3, none⟩ = some (.int .i64 s.y) := (blk_cell Xg9 3).trans rfl; have cg9_4 : w6.cell? ⟨g9, 4, none⟩ = some (.int .i64 s.hd) := (blk_cell Xg9 4).trans rfl; have cg4_15 : w6.cell? ⟨g4, 15, none⟩ = some (.slice bA bn bc) := (blk_cell (blk_below Xg4 hB6) 15).trans rfl))
      go_loopw [7, 60] (fun v j wi => ∃ m : Nat, m ≤ bn ∧ j = .int .i64 m ∧ v = vo ∧ Aside0 (Apart s rs m) ∧ Aside0 (Below w6.heap.size w6 wi)) (fun _ j _ => bn - (intOf j).toNat)
      case atStart => exact ⟨0, Nat.zero_le _, rfl, rfl, ⟨Apart.zero _ _⟩, ⟨Below.refl _ _⟩⟩
      case round =>
        clear cg4_15 cg9_0 cg9_1 cg9_2 cg9_3 cg9_4
        obtain ⟨m, hmb, rfl, hv, HA, HBi⟩ := hrel
        have hBi := HBi.out
        clear HBi
        subst hv
        obtain ⟨wi, rfl⟩ : ∃ wi, wi = wr := ⟨_, rfl⟩
        have hown := pw_own_below hown6 hBi
        have hB := below_step hB6 hBi
        have Xg9 := blk_below Xg9 hBi
        clear hown6 hB6
        by_cases hlm : m < bn
        · obtain ⟨bd, eB, hd⟩ := (hR2.below hB).at_ m hlm
          subst eB
          have hlr : m < rs.length := by rw [hR2.len]; exact hlm
          obtain ⟨r, hr⟩ : ∃ r, rs.getD m default = r := ⟨_, rfl⟩
          rw [hr] at hd
          have HR := Aside0.mk hr
          clear hr
          have hd : At wi (bd.add (m * 5)) [.int .i64 r.ki, .int .i64 r.id, .int .i64 r.x, .int .i64 r.y, .int .i64 r.hd] := hd
          have hm2 : (m : Int) < (bn : Int) := Int.ofNat_lt.mpr hlm
          have hm0 : (0 : Int) ≤ m := Int.natCast_nonneg m
          by_cases h4 : s.ki = r.ki
          · have e4 : (s.ki == r.ki) = true := beq_iff_eq.2 h4
            by_cases h5 : s.id = r.id
            · have e5 : (s.id == r.id) = true := beq_iff_eq.2 h5
              have HM := Aside0.mk (hits_some (t := t) HA.out hlr (by rw [HR.out]; exact meets_yes h4 h5))
              rw [HR.out] at HM
              clear h4 h5
              go_wp2_with (first
                | ((with_reducible refine gate_dst (N := 63) rfl ?_); refine wpList_load_at rfl 55 (.tmp 62) rfl _ rfl [.int .i64 r.ki, .int .i64 r.id, .int .i64 r.x, .int .i64 r.y, .int .i64 r.hd] _ Try.underlying55 rfl (by kernel_rfl) hd ?_)
                | ((with_reducible refine gate_dst (N := 11) rfl ?_); refine box_event ?hg (N := 11) ?hd (cs := #[.int .i64 0, .int .i64 0, .int .i64 0, .int .i64 0, .int .i64 0]) (t := 55) ?hr ?_; (case hd => rfl); (case hg => rfl); (case hr => first | (go_simp; done) | (go_simp; rfl)); intro g11 eg11 w15 Xg11 Bg11; have hg11 : wi.heap.size ≤ g11 := Nat.le_of_eq eg11.symm; have n11 : g9 ≠ g11 := (by have := blk_lt Xg9; omega); clear eg11)
                | ((with_reducible refine gate_store (t := 55) (p := 11) rfl ?_); refine wpList_store_blk rfl 55 (.tmp 11) (.tmp 63) rfl g11 [.int .i64 r.ki, .int .i64 r.id, .int .i64 r.x, .int .i64 r.y, .int .i64 r.hd] rfl rfl 55 _ Xg11 (by kernel_rfl) rfl rfl ?_; intro w16 Xs hb6 hk6 hz6; have hBr := hb6 _ _ Bg11 hg11; have hB := below_step hB hBr; have hBi := below_step hBi hBr; have hown := pw_own_below hown hBr; have Xg9 := blk_below Xg9 hBr; have hsz := hBr.size; clear hb6 hk6 Xg11 Bg11 hBr; have Xg11 := Xs; clear Xs; have cg9_0 : w16.cell? ⟨g9, 0, none⟩ = some (.int .i64 s.ki) := (blk_cell Xg9 0).trans rfl; have cg9_1 : w16.cell? ⟨g9, 1, none⟩ = some (.int .i64 s.id) := (blk_cell Xg9 1).trans rfl; have cg9_2 : w16.cell? ⟨g9, 2, none⟩ = some (.int .i64 s.x) := (blk_cell Xg9 2).trans rfl; have cg9_3 : w16.cell? ⟨g9, 3, none⟩ = some (.int .i64 s.y) := (blk_cell Xg9 3).trans rfl; have cg9_4 : w16.cell? ⟨g9, 4, none⟩ = some (.int .i64 s.hd) := (blk_cell Xg9 4).trans rfl; have cg11_0 : w16.cell? ⟨g11, 0, none⟩ = some (.int .i64 r.ki) := (blk_cell Xg11 0).trans rfl; have cg11_1 : w16.cell? ⟨g11, 1, none⟩ = some (.int .i64 r.id) := (blk_cell Xg11 1).trans rfl; have cg11_2 : w16.cell? ⟨g11, 2, none⟩ = some (.int .i64 r.x) := (blk_cell Xg11 2).trans rfl; have cg11_3 : w16.cell? ⟨g11, 3, none⟩ = some (.int .i64 r.y) := (blk_cell Xg11 3).trans rfl; have cg11_4 : w16.cell? ⟨g11, 4, none⟩ = some (.int .i64 r.hd) := (blk_cell Xg11 4).trans rfl))
              refine start_ (n := 16) (S := fun w' => w'.cell? ⟨g9, 2, none⟩ = some (.int .i64 s.x) ∧ w'.cell? ⟨g9, 3, none⟩ = some (.int .i64 s.y) ∧ w'.cell? ⟨g9, 4, none⟩ = some (.int .i64 s.hd) ∧ w'.cell? ⟨g11, 2, none⟩ = some (.int .i64 r.x) ∧ w'.cell? ⟨g11, 3, none⟩ = some (.int .i64 r.y) ∧ w'.cell? ⟨g11, 4, none⟩ = some (.int .i64 r.hd)) (ds := [14]) #[false, false, false, false, false, false, false, false, false, false, false, false, false, false, false, false] (by kernel_rfl) rfl rfl ⟨cg9_2, cg9_3, cg9_4, cg11_2, cg11_3, cg11_4⟩ (fun hHeld => ?_)
              refine pure_ (i := 0) (N := some 76) (v := ?_) (a' := ?_) #[true, false, false, false, false, false, false, false, false, false, false, false, false, false, false, false] rfl rfl (by kernel_rfl) (fun _ _ _ h => h) (Or.inl ⟨by rfl, ?_⟩) ?_ ?_
              rotate_left
              · intro w'
                go_simp
                with_reducible rfl
              rotate_left
              · simp only [Act.put, List.setIfInBounds_toArray, List.set_cons_zero, List.set_cons_succ, i64_w, i32_w]
                rfl
              refine pure_ (i := 1) (N := some 77) (v := ?_) (a' := ?_) #[true, true, false, false, false, false, false, false, false, false, false, false, false, false, false, false] rfl rfl (by kernel_rfl) (fun _ _ _ h => h) (Or.inl ⟨by rfl, ?_⟩) ?_ ?_
              rotate_left
              · intro w'
                go_simp
                with_reducible rfl
              rotate_left
              · simp only [Act.put, List.setIfInBounds_toArray, List.set_cons_zero, List.set_cons_succ, i64_w, i32_w]
                rfl
              refine pure_ (i := 3) (N := some 79) (v := ?_) (a' := ?_) #[true, true, false, true, false, false, false, false, false, false, false, false, false, false, false, false] rfl rfl (by kernel_rfl) (fun _ _ _ h => h) (Or.inl ⟨by rfl, ?_⟩) ?_ ?_
              rotate_left
              · intro w'
                go_simp
                with_reducible rfl
              rotate_left
              · simp only [Act.put, List.setIfInBounds_toArray, List.set_cons_zero, List.set_cons_succ, i64_w, i32_w]
                rfl
              refine pure_ (i := 6) (N := some 82) (v := ?_) (a' := ?_) #[true, true, false, true, false, false, true, false, false, false, false, false, false, false, false, false] rfl rfl (by kernel_rfl) (fun _ _ _ h => h) (Or.inl ⟨by rfl, ?_⟩) ?_ ?_
              rotate_left
              · intro w'
                go_simp
                with_reducible rfl
              rotate_left
              · simp only [Act.put, List.setIfInBounds_toArray, List.set_cons_zero, List.set_cons_succ, i64_w, i32_w]
                rfl
              refine pure_ (i := 8) (N := some 84) (v := ?_) (a' := ?_) #[true, true, false, true, false, false, true, false, true, false, false, false, false, false, false, false] rfl rfl (by kernel_rfl) (fun _ _ _ h => h) (Or.inl ⟨by rfl, ?_⟩) ?_ ?_
              rotate_left
              · intro w'
                go_simp
                with_reducible rfl
              rotate_left
              · simp only [Act.put, List.setIfInBounds_toArray, List.set_cons_zero, List.set_cons_succ, i64_w, i32_w]
                rfl
              refine pure_ (i := 11) (N := some 87) (v := ?_) (a' := ?_) #[true, true, false, true, false, false, true, false, true, false, false, true, false, false, false, false] rfl rfl (by kernel_rfl) (fun _ _ _ h => h) (Or.inl ⟨by rfl, ?_⟩) ?_ ?_
              rotate_left
              · intro w'
                go_simp
                with_reducible rfl
              rotate_left
              · simp only [Act.put, List.setIfInBounds_toArray, List.set_cons_zero, List.set_cons_succ, i64_w, i32_w]
                rfl
              refine take_ (i := 2) (N := some 78) (v := ?_) (a' := ?_) #[true, true, true, true, false, false, true, false, true, false, false, true, false, false, false, false] rfl rfl (by kernel_rfl) (fun _ _ _ h => h) (Or.inl ⟨by rfl, ?_⟩) hHeld ?_ ?_
              rotate_left
              · rintro w' ⟨s0, s1, s2, s3, s4, s5⟩
                go_simp
                with_reducible rfl
              rotate_left
              · simp only [Act.put, List.setIfInBounds_toArray, List.set_cons_zero, List.set_cons_succ, i64_w, i32_w]
                rfl
              refine take_ (i := 4) (N := some 80) (v := ?_) (a' := ?_) #[true, true, true, true, true, false, true, false, true, false, false, true, false, false, false, false] rfl rfl (by kernel_rfl) (fun _ _ _ h => h) (Or.inl ⟨by rfl, ?_⟩) hHeld ?_ ?_
              rotate_left
              · rintro w' ⟨s0, s1, s2, s3, s4, s5⟩
                go_simp
                with_reducible rfl
              rotate_left
              · simp only [Act.put, List.setIfInBounds_toArray, List.set_cons_zero, List.set_cons_succ, i64_w, i32_w]
                rfl
              refine take_ (i := 7) (N := some 83) (v := ?_) (a' := ?_) #[true, true, true, true, true, false, true, true, true, false, false, true, false, false, false, false] rfl rfl (by kernel_rfl) (fun _ _ _ h => h) (Or.inl ⟨by rfl, ?_⟩) hHeld ?_ ?_
              rotate_left
              · rintro w' ⟨s0, s1, s2, s3, s4, s5⟩
                go_simp
                with_reducible rfl
              rotate_left
              · simp only [Act.put, List.setIfInBounds_toArray, List.set_cons_zero, List.set_cons_succ, i64_w, i32_w]
                rfl
              refine take_ (i := 9) (N := some 85) (v := ?_) (a' := ?_) #[true, true, true, true, true, false, true, true, true, true, false, true, false, false, false, false] rfl rfl (by kernel_rfl) (fun _ _ _ h => h) (Or.inl ⟨by rfl, ?_⟩) hHeld ?_ ?_
              rotate_left
              · rintro w' ⟨s0, s1, s2, s3, s4, s5⟩
                go_simp
                with_reducible rfl
              rotate_left
              · simp only [Act.put, List.setIfInBounds_toArray, List.set_cons_zero, List.set_cons_succ, i64_w, i32_w]
                rfl
              refine one_ (i := 5) (N := some 81) #[true, true, true, true, true, true, true, true, true, true, false, true, false, false, false, false] rfl rfl (by kernel_rfl) (by decide) (fun K hK => ?_)
              refine goes_ Try.func20 (by kernel_rfl) rfl _ (by rfl) rfl rfl (by simp only [List.map_toArray, List.map_cons, List.map_nil]; rfl) ?_
              refine (of_calls s.x s.y s.hd _).mono ?_
              rintro e w8 ⟨p1, q1, hp1, hq1, rfl, hb1⟩
              refine ⟨_, rfl, ?_⟩
              have hB := below_step (below_drew1 hB) hb1
              have hown := pw_own_below (own_drew hown) hb1
              refine hK.out _ _ ⟨pw_cell_below hb1 (hHeld.1), pw_cell_below hb1 (hHeld.2.1), pw_cell_below hb1 (hHeld.2.2.1), pw_cell_below hb1 (hHeld.2.2.2.1), pw_cell_below hb1 (hHeld.2.2.2.2.1), pw_cell_below hb1 (hHeld.2.2.2.2.2)⟩ (fun hHeld => ?_)
              clear hK K
              refine norm_ (a' := ?_) ?_ ?_
              rotate_left
              · show Act.put _ (some 81) _ = _
                simp only [Act.put, List.setIfInBounds_toArray, List.set_cons_zero, List.set_cons_succ, i64_w, i32_w]
                rfl
              refine one_ (i := 10) (N := some 86) #[true, true, true, true, true, true, true, true, true, true, true, true, false, false, false, false] rfl rfl (by kernel_rfl) (by decide) (fun K hK => ?_)
              refine goes_ Try.func20 (by kernel_rfl) rfl _ (by rfl) rfl rfl (by simp only [List.map_toArray, List.map_cons, List.map_nil]; rfl) ?_
              refine (of_calls r.x r.y r.hd _).mono ?_
              rintro e w8 ⟨p2, q2, hp2, hq2, rfl, hb2⟩
              refine ⟨_, rfl, ?_⟩
              have hB := below_step hB hb2
              have hown := pw_own_below hown hb2
              refine hK.out _ _ ⟨pw_cell_below hb2 (hHeld.1), pw_cell_below hb2 (hHeld.2.1), pw_cell_below hb2 (hHeld.2.2.1), pw_cell_below hb2 (hHeld.2.2.2.1), pw_cell_below hb2 (hHeld.2.2.2.2.1), pw_cell_below hb2 (hHeld.2.2.2.2.2)⟩ (fun hHeld => ?_)
              clear hK K
              refine norm_ (a' := ?_) ?_ ?_
              rotate_left
              · show Act.put _ (some 86) _ = _
                simp only [Act.put, List.setIfInBounds_toArray, List.set_cons_zero, List.set_cons_succ, i64_w, i32_w]
                rfl
              refine one_ (i := 12) (N := some 88) #[true, true, true, true, true, true, true, true, true, true, true, true, true, false, false, false] rfl rfl (by kernel_rfl) (by decide) (fun K hK => ?_)
              refine goes_ Try.func12 (by kernel_rfl) rfl _ (by rfl) rfl rfl (by simp only [List.map_toArray, List.map_cons, List.map_nil]; rfl) ?_
              refine (mix_calls p1 q1 _ p2 q2 _ t _).mono ?_
              rintro e w8 ⟨x3, y3, z3, hx3, hy3, hz3, rfl, hb3⟩
              refine ⟨_, rfl, ?_⟩
              have hB := below_step hB hb3
              have hown := pw_own_below hown hb3
              refine hK.out _ _ ⟨pw_cell_below hb3 (hHeld.1), pw_cell_below hb3 (hHeld.2.1), pw_cell_below hb3 (hHeld.2.2.1), pw_cell_below hb3 (hHeld.2.2.2.1), pw_cell_below hb3 (hHeld.2.2.2.2.1), pw_cell_below hb3 (hHeld.2.2.2.2.2)⟩ (fun hHeld => ?_)
              clear hK K
              refine norm_ (a' := ?_) ?_ ?_
              rotate_left
              · show Act.put _ (some 88) _ = _
                simp only [Act.put, List.setIfInBounds_toArray, List.set_cons_zero, List.set_cons_succ, i64_w, i32_w]
                rfl
              refine one_ (i := 13) (N := some 89) #[true, true, true, true, true, true, true, true, true, true, true, true, true, true, false, false] rfl rfl (by kernel_rfl) (by decide) (fun K hK => ?_)
              refine value_ (w1 := ?_) (v := ?_) (by rfl) rfl ?_ ?_
              rotate_left 2
              · go_simp
                constructor
                · rfl
                · rfl
              refine hK.out _ _ ⟨pw_cell_below (below_alloc (Below.refl _ _) _) (hHeld.1), pw_cell_below (below_alloc (Below.refl _ _) _) (hHeld.2.1), pw_cell_below (below_alloc (Below.refl _ _) _) (hHeld.2.2.1), pw_cell_below (below_alloc (Below.refl _ _) _) (hHeld.2.2.2.1), pw_cell_below (below_alloc (Below.refl _ _) _) (hHeld.2.2.2.2.1), pw_cell_below (below_alloc (Below.refl _ _) _) (hHeld.2.2.2.2.2)⟩ (fun hHeld => ?_)
              clear hK K
              refine norm_ (a' := ?_) ?_ ?_
              rotate_left
              · show Act.put _ (some 89) _ = _
                simp only [Act.put, List.setIfInBounds_toArray, List.set_cons_zero, List.set_cons_succ, i64_w, i32_w]
                rfl
              refine last_ (i := 14) (N := some 90) #[true, true, true, true, true, true, true, true, true, true, true, true, true, true, true, false] rfl rfl (by kernel_rfl) (by decide) (fun K hK => ?_)
              refine step_append_cells (w0 := w2) w2.heap.size (by rfl) (.tmp 76) (.tmp 89) 51 24 (.agg #[.float .f32 0, .float .f32 0, .float .f32 0]) 3 12 rfl Try.underlying51 (by kernel_rfl) rfl (by decide) (by decide) _ ps.length (rowP ps) [.float .f32 x3, .float .f32 y3, .float .f32 z3] rfl rfl rfl (by simp [Value.oneCell']) hown hB hB.size (by omega) ?_
              intro v9 w9 hown9 hB9 hg9 hat9
              refine hK.out _ _ ?_
              clear hK K
              refine norm_ (a' := ?_) ?_ ?_
              rotate_left
              · show Act.put _ (some 90) _ = _
                simp only [Act.put, List.setIfInBounds_toArray, List.set_cons_zero, List.set_cons_succ, i64_w, i32_w]
                rfl
              refine pure_ (i := 15) (N := some 7) (v := ?_) (a' := ?_) #[true, true, true, true, true, true, true, true, true, true, true, true, true, true, true, true] rfl rfl (by kernel_rfl) (fun _ _ _ h => h) (Or.inl ⟨by rfl, ?_⟩) ?_ ?_
              rotate_left
              · intro w'
                go_simp
                with_reducible rfl
              rotate_left
              · simp only [Act.put, List.setIfInBounds_toArray, List.set_cons_zero, List.set_cons_succ, i64_w, i32_w]
                rfl
              refine done_ (by kernel_rfl) ?_

              have hown := own_more hown9
              have HPN := Aside0.mk (HP.out.snoc (pf_mix (p := s.p) (q := r.p) hx3 hy3 hz3 hp1 hq1 (Fe.refl _) hp2 hq2 (Fe.refl _)))
              have hB := hB9
              clear hown9 hB9 hx3 hy3 hz3 hp1 hq1 hp2 hq2
              go_wp2
              go_roundw
              case rel => exact ⟨k + 1, _, by omega, by go_num, ⟨hown⟩, ⟨by rw [HST.out, HM.out, ← List.append_assoc]; exact HPN.out⟩, ⟨hB⟩⟩
              case measure => simp [intOf]; omega
            · have e5 : (s.id == r.id) = false := beq_eq_false_iff_ne.2 h5
              have HA2 := Aside0.mk (HA.out.step (by rw [HR.out]; exact meets_no2 h5))
              clear h4 h5
              go_wp2_with (first
                | ((with_reducible refine gate_dst (N := 63) rfl ?_); refine wpList_load_at rfl 55 (.tmp 62) rfl _ rfl [.int .i64 r.ki, .int .i64 r.id, .int .i64 r.x, .int .i64 r.y, .int .i64 r.hd] _ Try.underlying55 rfl (by kernel_rfl) hd ?_)
                | ((with_reducible refine gate_dst (N := 11) rfl ?_); refine box_event ?hg (N := 11) ?hd (cs := #[.int .i64 0, .int .i64 0, .int .i64 0, .int .i64 0, .int .i64 0]) (t := 55) ?hr ?_; (case hd => rfl); (case hg => rfl); (case hr => first | (go_simp; done) | (go_simp; rfl)); intro g11 eg11 w15 Xg11 Bg11; have hg11 : wi.heap.size ≤ g11 := Nat.le_of_eq eg11.symm; have n11 : g9 ≠ g11 := (by have := blk_lt Xg9; omega); clear eg11)
                | ((with_reducible refine gate_store (t := 55) (p := 11) rfl ?_); refine wpList_store_blk rfl 55 (.tmp 11) (.tmp 63) rfl g11 [.int .i64 r.ki, .int .i64 r.id, .int .i64 r.x, .int .i64 r.y, .int .i64 r.hd] rfl rfl 55 _ Xg11 (by kernel_rfl) rfl rfl ?_; intro w16 Xs hb6 hk6 hz6; have hBr := hb6 _ _ Bg11 hg11; have hB := below_step hB hBr; have hBi := below_step hBi hBr; have hown := pw_own_below hown hBr; have Xg9 := blk_below Xg9 hBr; have hsz := hBr.size; clear hb6 hk6 Xg11 Bg11 hBr; have Xg11 := Xs; clear Xs; have cg9_0 : w16.cell? ⟨g9, 0, none⟩ = some (.int .i64 s.ki) := (blk_cell Xg9 0).trans rfl; have cg9_1 : w16.cell? ⟨g9, 1, none⟩ = some (.int .i64 s.id) := (blk_cell Xg9 1).trans rfl; have cg9_2 : w16.cell? ⟨g9, 2, none⟩ = some (.int .i64 s.x) := (blk_cell Xg9 2).trans rfl; have cg9_3 : w16.cell? ⟨g9, 3, none⟩ = some (.int .i64 s.y) := (blk_cell Xg9 3).trans rfl; have cg9_4 : w16.cell? ⟨g9, 4, none⟩ = some (.int .i64 s.hd) := (blk_cell Xg9 4).trans rfl; have cg11_0 : w16.cell? ⟨g11, 0, none⟩ = some (.int .i64 r.ki) := (blk_cell Xg11 0).trans rfl; have cg11_1 : w16.cell? ⟨g11, 1, none⟩ = some (.int .i64 r.id) := (blk_cell Xg11 1).trans rfl; have cg11_2 : w16.cell? ⟨g11, 2, none⟩ = some (.int .i64 r.x) := (blk_cell Xg11 2).trans rfl; have cg11_3 : w16.cell? ⟨g11, 3, none⟩ = some (.int .i64 r.y) := (blk_cell Xg11 3).trans rfl; have cg11_4 : w16.cell? ⟨g11, 4, none⟩ = some (.int .i64 r.hd) := (blk_cell Xg11 4).trans rfl))
              go_roundw
              case rel => exact ⟨m + 1, by omega, by go_num, rfl, HA2, ⟨hBi⟩⟩
              case measure => simp [intOf]; omega
          · have e4 : (s.ki == r.ki) = false := beq_eq_false_iff_ne.2 h4
            have HA2 := Aside0.mk (HA.out.step (by rw [HR.out]; exact meets_no1 h4))
            clear h4
            go_wp2_with (first
                | ((with_reducible refine gate_dst (N := 63) rfl ?_); refine wpList_load_at rfl 55 (.tmp 62) rfl _ rfl [.int .i64 r.ki, .int .i64 r.id, .int .i64 r.x, .int .i64 r.y, .int .i64 r.hd] _ Try.underlying55 rfl (by kernel_rfl) hd ?_)
                | ((with_reducible refine gate_dst (N := 11) rfl ?_); refine box_event ?hg (N := 11) ?hd (cs := #[.int .i64 0, .int .i64 0, .int .i64 0, .int .i64 0, .int .i64 0]) (t := 55) ?hr ?_; (case hd => rfl); (case hg => rfl); (case hr => first | (go_simp; done) | (go_simp; rfl)); intro g11 eg11 w15 Xg11 Bg11; have hg11 : wi.heap.size ≤ g11 := Nat.le_of_eq eg11.symm; have n11 : g9 ≠ g11 := (by have := blk_lt Xg9; omega); clear eg11)
                | ((with_reducible refine gate_store (t := 55) (p := 11) rfl ?_); refine wpList_store_blk rfl 55 (.tmp 11) (.tmp 63) rfl g11 [.int .i64 r.ki, .int .i64 r.id, .int .i64 r.x, .int .i64 r.y, .int .i64 r.hd] rfl rfl 55 _ Xg11 (by kernel_rfl) rfl rfl ?_; intro w16 Xs hb6 hk6 hz6; have hBr := hb6 _ _ Bg11 hg11; have hB := below_step hB hBr; have hBi := below_step hBi hBr; have hown := pw_own_below hown hBr; have Xg9 := blk_below Xg9 hBr; have hsz := hBr.size; clear hb6 hk6 Xg11 Bg11 hBr; have Xg11 := Xs; clear Xs; have cg9_0 : w16.cell? ⟨g9, 0, none⟩ = some (.int .i64 s.ki) := (blk_cell Xg9 0).trans rfl; have cg9_1 : w16.cell? ⟨g9, 1, none⟩ = some (.int .i64 s.id) := (blk_cell Xg9 1).trans rfl; have cg9_2 : w16.cell? ⟨g9, 2, none⟩ = some (.int .i64 s.x) := (blk_cell Xg9 2).trans rfl; have cg9_3 : w16.cell? ⟨g9, 3, none⟩ = some (.int .i64 s.y) := (blk_cell Xg9 3).trans rfl; have cg9_4 : w16.cell? ⟨g9, 4, none⟩ = some (.int .i64 s.hd) := (blk_cell Xg9 4).trans rfl; have cg11_0 : w16.cell? ⟨g11, 0, none⟩ = some (.int .i64 r.ki) := (blk_cell Xg11 0).trans rfl; have cg11_1 : w16.cell? ⟨g11, 1, none⟩ = some (.int .i64 r.id) := (blk_cell Xg11 1).trans rfl; have cg11_2 : w16.cell? ⟨g11, 2, none⟩ = some (.int .i64 r.x) := (blk_cell Xg11 2).trans rfl; have cg11_3 : w16.cell? ⟨g11, 3, none⟩ = some (.int .i64 r.y) := (blk_cell Xg11 3).trans rfl; have cg11_4 : w16.cell? ⟨g11, 4, none⟩ = some (.int .i64 r.hd) := (blk_cell Xg11 4).trans rfl))
            go_roundw
            case rel => exact ⟨m + 1, by omega, by go_num, rfl, HA2, ⟨hBi⟩⟩
            case measure => simp [intOf]; omega
        · obtain rfl : m = bn := by omega
          have HM := Aside0.mk (hits_none (t := t) (by rw [hR2.len]; exact HA.out))
          go_wp2_with fail
          go_roundw
          case rel => exact ⟨k + 1, _, by omega, by go_num, ⟨hown⟩, ⟨by rw [HST.out, HM.out, List.append_nil]; exact HP.out⟩, ⟨hB⟩⟩
          case measure => simp [intOf]; omega
    · obtain rfl : k = an := by omega
      obtain ⟨A, c, rfl, _, _⟩ := own_prow hown
      have hHP : PFs ps (ownB apl bpl awt bwt (ofP au av ahd) (ofP bu bv bhd) t ++ seenB ss rs t) := by
        have := HP.out
        rwa [List.take_of_length_le (Nat.le_of_eq hS2.len)] at this
      have HP := Aside0.mk hHP
      clear hHP
      go_wp2_with fail
      go_ret
      exact ⟨A, c, ps, rfl, own_less hown hB0.size, HP.out, below_step hB0 hB⟩

set_option maxHeartbeats 8000000 in
set_option maxRecDepth 100000 in
theorem between_calls_2 (atk apl au av avx avy ahd ahe aen aam aco awt asp asc : Int) (anm : ByteArray) (aA : Option Addr) (an ac : Nat) (btk bpl bu bv bvx bvy bhd bhe ben bam bco bwt bsp bsc : Int) (bnm : ByteArray) (bA : Option Addr) (bn bc : Nat) (t : Nat) (w : World) (ss rs : List S5) (hS : SRow w aA an ss) (hR : SRow w bA bn rs) (hn : an * 12 + 12 ≤ 140737488355328) (hm : bn ≤ 9223372036854775807) (h1 : apl = bpl) (h2 : ¬ awt ≤ 0) : Calls Try.prog 26 #[.agg #[.int .u64 atk, .int .i64 apl, .string anm, .int .i64 au, .int .i64 av, .int .i64 avx, .int .i64 avy, .int .i64 ahd, .int .i64 ahe, .int .i64 aen, .int .i64 aam, .int .i64 aco, .int .i64 awt, .int .i64 asp, .int .i64 asc, .slice aA an ac], .agg #[.int .u64 btk, .int .i64 bpl, .string bnm, .int .i64 bu, .int .i64 bv, .int .i64 bvx, .int .i64 bvy, .int .i64 bhd, .int .i64 bhe, .int .i64 ben, .int .i64 bam, .int .i64 bco, .int .i64 bwt, .int .i64 bsp, .int .i64 bsc, .slice bA bn bc], .float .f32 t] w fun e w' => ∃ A c ps, e = .returned (.slice A ps.length c) ∧ OwnP w' w.heap.size (.slice A ps.length c) ps ∧ PFs ps (ownB apl bpl awt bwt (ofP au av ahd) (ofP bu bv bhd) t ++ seenB ss rs t) ∧ Below w.heap.size w w' := by
  have hu47 := Try.underlying47
  have hu40 := Try.underlying40
  have hu38 := Try.underlying38
  have hu55 := Try.underlying55
  have hu45 := Try.underlying45
  have hu51 := Try.underlying51
  have hu24 := Try.underlying24
  have hu3 := Try.underlying3
  have hnn : (an : Int) ≤ 9223372036854775807 := by omega
  have hmm : (bn : Int) ≤ 9223372036854775807 := by omega
  have e1 : (apl == bpl) = true := beq_iff_eq.2 h1
  have d2 : decide (awt ≤ 0) = false := decide_eq_false h2
  have h2' : 0 < awt := by omega
  have HO := Aside0.mk (show ownB apl bpl awt bwt (ofP au av ahd) (ofP bu bv bhd) t = [] from if_neg (fun h => h2 h.2.1))
  clear h1
  go_enter Try.func26, Try.ntmps26
  go_wp2_with (first
        | ((try (refine gate_guard (by rfl) ?_; dsimp only)); refine wpList_fl _ rfl _ _ _ _ _ rfl (by decide) _ _ _ _ rfl rfl (by first | assumption | exact Fe.refl _) (by first | assumption | exact Fe.refl _) ?_; intro z nd hz)
        | ((try (refine gate_guard (by rfl) ?_; dsimp only)); refine wpList_flc _ rfl _ _ _ _ _ rfl (by decide) _ _ _ _ rfl rfl (by first | assumption | exact Fe.refl _) (by first | assumption | exact Fe.refl _) ?_)
        | ((with_reducible refine gate_dst (N := 3) rfl ?_); refine box_event ?hg (N := 3) ?hd (cs := #[.int .u64 atk, .int .i64 apl, .string anm, .int .i64 au, .int .i64 av, .int .i64 avx, .int .i64 avy, .int .i64 ahd, .int .i64 ahe, .int .i64 aen, .int .i64 aam, .int .i64 aco, .int .i64 awt, .int .i64 asp, .int .i64 asc, .slice aA an ac]) (t := 47) ?hr ?_; (case hd => rfl); (case hg => rfl); (case hr => first | (go_simp; done) | (go_simp; rfl)); intro g3 eg3 w1 Xg3 Bg3; clear eg3)
        | ((with_reducible refine gate_dst (N := 4) rfl ?_); refine box_event ?hg (N := 4) ?hd (cs := #[.int .u64 btk, .int .i64 bpl, .string bnm, .int .i64 bu, .int .i64 bv, .int .i64 bvx, .int .i64 bvy, .int .i64 bhd, .int .i64 bhe, .int .i64 ben, .int .i64 bam, .int .i64 bco, .int .i64 bwt, .int .i64 bsp, .int .i64 bsc, .slice bA bn bc]) (t := 47) ?hr ?_; (case hd => rfl); (case hg => rfl); (case hr => first | (go_simp; done) | (go_simp; rfl)); intro g4 eg4 w2 Xg4 Bg4; have Xg3 := blk_below Xg3 Bg4; have hB0 := below_step Bg3 Bg4; have hS2 := (hS.below Bg3).below Bg4; have hR2 := (hR.below Bg3).below Bg4; have hB := Below.refl w2.heap.size w2; have lg3 := blk_lt Xg3; have lg4 := blk_lt Xg4; clear eg4 Bg3 Bg4 hS hR; have cg3_1 : w2.cell? ⟨g3, 1, none⟩ = some (.int .i64 apl) := (blk_cell Xg3 1).trans rfl; have cg3_3 : w2.cell? ⟨g3, 3, none⟩ = some (.int .i64 au) := (blk_cell Xg3 3).trans rfl; have cg3_4 : w2.cell? ⟨g3, 4, none⟩ = some (.int .i64 av) := (blk_cell Xg3 4).trans rfl; have cg3_7 : w2.cell? ⟨g3, 7, none⟩ = some (.int .i64 ahd) := (blk_cell Xg3 7).trans rfl; have cg3_12 : w2.cell? ⟨g3, 12, none⟩ = some (.int .i64 awt) := (blk_cell Xg3 12).trans rfl; have cg3_15 : w2.cell? ⟨g3, 15, none⟩ = some (.slice aA an ac) := (blk_cell Xg3 15).trans rfl; have cg4_1 : w2.cell? ⟨g4, 1, none⟩ = some (.int .i64 bpl) := (blk_cell Xg4 1).trans rfl; have cg4_3 : w2.cell? ⟨g4, 3, none⟩ = some (.int .i64 bu) := (blk_cell Xg4 3).trans rfl; have cg4_4 : w2.cell? ⟨g4, 4, none⟩ = some (.int .i64 bv) := (blk_cell Xg4 4).trans rfl; have cg4_7 : w2.cell? ⟨g4, 7, none⟩ = some (.int .i64 bhd) := (blk_cell Xg4 7).trans rfl; have cg4_12 : w2.cell? ⟨g4, 12, none⟩ = some (.int .i64 bwt) := (blk_cell Xg4 12).trans rfl; have cg4_15 : w2.cell? ⟨g4, 15, none⟩ = some (.slice bA bn bc) := (blk_cell Xg4 15).trans rfl))
  have hown : OwnP w2 w2.heap.size (.slice none 0 0) [] := own_nil _ _ _ _
  have HPF := Aside0.mk (PFs.refl [])
  go_wp2_with fail
  go_loopw [7, 53] (fun v i wr => ∃ (k : Nat) (ps : List P3), k ≤ an ∧ i = .int .i64 k ∧ Aside0 (OwnP wr w2.heap.size v ps) ∧ Aside0 (PFs ps (ownB apl bpl awt bwt (ofP au av ahd) (ofP bu bv bhd) t ++ seenB (ss.take k) rs t)) ∧ Aside0 (Below w2.heap.size w2 wr)) (fun _ i _ => an - (intOf i).toNat)
  case atStart => exact ⟨0, _, Nat.zero_le _, rfl, ⟨hown⟩, ⟨by rw [List.take_zero, seenB_nil, List.append_nil, HO.out]; exact HPF.out⟩, ⟨hB⟩⟩
  case round =>
    clear hown HPF hB cg3_1 cg3_3 cg3_4 cg3_7 cg3_12 cg3_15 cg4_1 cg4_3 cg4_4 cg4_7 cg4_12 cg4_15
    obtain ⟨k, ps, hk, rfl, HW, HP, HB⟩ := hrel
    have hown := HW.out
    have hB := HB.out
    clear HW HB
    obtain ⟨vo, rfl⟩ : ∃ vo, vo = u7 := ⟨_, rfl⟩
    obtain ⟨wo, rfl⟩ : ∃ wo, wo = wr := ⟨_, rfl⟩
    by_cases hlt : k < an
    · obtain ⟨ad, eA, hc⟩ := (hS2.below hB).at_ k hlt
      subst eA
      have hlk : k < ss.length := by rw [hS2.len]; exact hlt
      have hle : ps.length * 12 + 12 ≤ 140737488355328 := ps_bound HP.out (ownB_le _ _ _ _ _ _ _) hlt hn
      have HST := Aside0.mk (seenB_step ss rs t k hlk)
      generalize ss.getD k default = s at hc HST
      have hc : At wo (ad.add (k * 5)) [.int .i64 s.ki, .int .i64 s.id, .int .i64 s.x, .int .i64 s.y, .int .i64 s.hd] := hc
      have hk2 : (k : Int) < (an : Int) := Int.ofNat_lt.mpr hlt
      have hk0 : (0 : Int) ≤ k := Int.natCast_nonneg k
      go_wp2_with (first
        | ((with_reducible refine gate_dst (N := 56) rfl ?_); refine wpList_load_at rfl 55 (.tmp 55) rfl _ rfl [.int .i64 s.ki, .int .i64 s.id, .int .i64 s.x, .int .i64 s.y, .int .i64 s.hd] _ Try.underlying55 rfl (by kernel_rfl) hc ?_)
        | ((with_reducible refine gate_dst (N := 9) rfl ?_); refine box_event ?hg (N := 9) ?hd (cs := #[.int .i64 0, .int .i64 0, .int .i64 0, .int .i64 0, .int .i64 0]) (t := 55) ?hr ?_; (case hd => rfl); (case hg => rfl); (case hr => first | (go_simp; done) | (go_simp; rfl)); intro g9 eg9 w5 Xg9 Bg9; have hg9 : wo.heap.size ≤ g9 := Nat.le_of_eq eg9.symm; clear eg9)
        | ((with_reducible refine gate_store (t := 55) (p := 9) rfl ?_); refine wpList_store_blk rfl 55 (.tmp 9) (.tmp 56) rfl g9 [.int .i64 s.ki, .int .i64 s.id, .int .i64 s.x, .int .i64 s.y, .int .i64 s.hd] rfl rfl 55 _ Xg9 (by kernel_rfl) rfl rfl ?_; intro w6 Xs hb6 hk6 hz6; have hBr := hb6 _ _ Bg9 hg9; have hB6 := below_step hB hBr; have hown6 := pw_own_below hown hBr; clear hb6 hk6 Xg9 Bg9; have Xg9 := Xs; clear Xs; have cg9_0 : w6.cell? ⟨g9, 0, none⟩ = some (.int .i64 s.ki) := (blk_cell Xg9 0).trans rfl; have cg9_1 : w6.cell? ⟨g9, 1, none⟩ = some (.int .i64 s.id) := (blk_cell Xg9 1).trans rfl; have cg9_2 : w6.cell? ⟨g9, 2, none⟩ = some (.int .i64 s.x) := (blk_cell Xg9 2).trans rfl; have cg9_3 : w6.cell? ⟨g9, 3, none⟩ = some (.int .i64 s.y) := (blk_cell Xg9 3).trans rfl; have cg9_4 : w6.cell? ⟨g9, 4, none⟩ = some (.int .i64 s.hd) := (blk_cell Xg9 4).trans rfl; have cg4_15 : w6.cell? ⟨g4, 15, none⟩ = some (.slice bA bn bc) := (blk_cell (blk_below Xg4 hB6) 15).trans rfl))
      go_loopw [7, 60] (fun v j wi => ∃ m : Nat, m ≤ bn ∧ j = .int .i64 m ∧ v = vo ∧ Aside0 (Apart s rs m) ∧ Aside0 (Below w6.heap.size w6 wi)) (fun _ j _ => bn - (intOf j).toNat)
      case atStart => exact ⟨0, Nat.zero_le _, rfl, rfl, ⟨Apart.zero _ _⟩, ⟨Below.refl _ _⟩⟩
      case round =>
        clear cg4_15 cg9_0 cg9_1 cg9_2 cg9_3 cg9_4
        obtain ⟨m, hmb, rfl, hv, HA, HBi⟩ := hrel
        have hBi := HBi.out
        clear HBi
        subst hv
        obtain ⟨wi, rfl⟩ : ∃ wi, wi = wr := ⟨_, rfl⟩
        have hown := pw_own_below hown6 hBi
        have hB := below_step hB6 hBi
        have Xg9 := blk_below Xg9 hBi
        clear hown6 hB6
        by_cases hlm : m < bn
        · obtain ⟨bd, eB, hd⟩ := (hR2.below hB).at_ m hlm
          subst eB
          have hlr : m < rs.length := by rw [hR2.len]; exact hlm
          obtain ⟨r, hr⟩ : ∃ r, rs.getD m default = r := ⟨_, rfl⟩
          rw [hr] at hd
          have HR := Aside0.mk hr
          clear hr
          have hd : At wi (bd.add (m * 5)) [.int .i64 r.ki, .int .i64 r.id, .int .i64 r.x, .int .i64 r.y, .int .i64 r.hd] := hd
          have hm2 : (m : Int) < (bn : Int) := Int.ofNat_lt.mpr hlm
          have hm0 : (0 : Int) ≤ m := Int.natCast_nonneg m
          by_cases h4 : s.ki = r.ki
          · have e4 : (s.ki == r.ki) = true := beq_iff_eq.2 h4
            by_cases h5 : s.id = r.id
            · have e5 : (s.id == r.id) = true := beq_iff_eq.2 h5
              have HM := Aside0.mk (hits_some (t := t) HA.out hlr (by rw [HR.out]; exact meets_yes h4 h5))
              rw [HR.out] at HM
              clear h4 h5
              go_wp2_with (first
                | ((with_reducible refine gate_dst (N := 63) rfl ?_); refine wpList_load_at rfl 55 (.tmp 62) rfl _ rfl [.int .i64 r.ki, .int .i64 r.id, .int .i64 r.x, .int .i64 r.y, .int .i64 r.hd] _ Try.underlying55 rfl (by kernel_rfl) hd ?_)
                | ((with_reducible refine gate_dst (N := 11) rfl ?_); refine box_event ?hg (N := 11) ?hd (cs := #[.int .i64 0, .int .i64 0, .int .i64 0, .int .i64 0, .int .i64 0]) (t := 55) ?hr ?_; (case hd => rfl); (case hg => rfl); (case hr => first | (go_simp; done) | (go_simp; rfl)); intro g11 eg11 w15 Xg11 Bg11; have hg11 : wi.heap.size ≤ g11 := Nat.le_of_eq eg11.symm; have n11 : g9 ≠ g11 := (by have := blk_lt Xg9; omega); clear eg11)
                | ((with_reducible refine gate_store (t := 55) (p := 11) rfl ?_); refine wpList_store_blk rfl 55 (.tmp 11) (.tmp 63) rfl g11 [.int .i64 r.ki, .int .i64 r.id, .int .i64 r.x, .int .i64 r.y, .int .i64 r.hd] rfl rfl 55 _ Xg11 (by kernel_rfl) rfl rfl ?_; intro w16 Xs hb6 hk6 hz6; have hBr := hb6 _ _ Bg11 hg11; have hB := below_step hB hBr; have hBi := below_step hBi hBr; have hown := pw_own_below hown hBr; have Xg9 := blk_below Xg9 hBr; have hsz := hBr.size; clear hb6 hk6 Xg11 Bg11 hBr; have Xg11 := Xs; clear Xs; have cg9_0 : w16.cell? ⟨g9, 0, none⟩ = some (.int .i64 s.ki) := (blk_cell Xg9 0).trans rfl; have cg9_1 : w16.cell? ⟨g9, 1, none⟩ = some (.int .i64 s.id) := (blk_cell Xg9 1).trans rfl; have cg9_2 : w16.cell? ⟨g9, 2, none⟩ = some (.int .i64 s.x) := (blk_cell Xg9 2).trans rfl; have cg9_3 : w16.cell? ⟨g9, 3, none⟩ = some (.int .i64 s.y) := (blk_cell Xg9 3).trans rfl; have cg9_4 : w16.cell? ⟨g9, 4, none⟩ = some (.int .i64 s.hd) := (blk_cell Xg9 4).trans rfl; have cg11_0 : w16.cell? ⟨g11, 0, none⟩ = some (.int .i64 r.ki) := (blk_cell Xg11 0).trans rfl; have cg11_1 : w16.cell? ⟨g11, 1, none⟩ = some (.int .i64 r.id) := (blk_cell Xg11 1).trans rfl; have cg11_2 : w16.cell? ⟨g11, 2, none⟩ = some (.int .i64 r.x) := (blk_cell Xg11 2).trans rfl; have cg11_3 : w16.cell? ⟨g11, 3, none⟩ = some (.int .i64 r.y) := (blk_cell Xg11 3).trans rfl; have cg11_4 : w16.cell? ⟨g11, 4, none⟩ = some (.int .i64 r.hd) := (blk_cell Xg11 4).trans rfl))
              refine start_ (n := 16) (S := fun w' => w'.cell? ⟨g9, 2, none⟩ = some (.int .i64 s.x) ∧ w'.cell? ⟨g9, 3, none⟩ = some (.int .i64 s.y) ∧ w'.cell? ⟨g9, 4, none⟩ = some (.int .i64 s.hd) ∧ w'.cell? ⟨g11, 2, none⟩ = some (.int .i64 r.x) ∧ w'.cell? ⟨g11, 3, none⟩ = some (.int .i64 r.y) ∧ w'.cell? ⟨g11, 4, none⟩ = some (.int .i64 r.hd)) (ds := [14]) #[false, false, false, false, false, false, false, false, false, false, false, false, false, false, false, false] (by kernel_rfl) rfl rfl ⟨cg9_2, cg9_3, cg9_4, cg11_2, cg11_3, cg11_4⟩ (fun hHeld => ?_)
              refine pure_ (i := 0) (N := some 76) (v := ?_) (a' := ?_) #[true, false, false, false, false, false, false, false, false, false, false, false, false, false, false, false] rfl rfl (by kernel_rfl) (fun _ _ _ h => h) (Or.inl ⟨by rfl, ?_⟩) ?_ ?_
              rotate_left
              · intro w'
                go_simp
                with_reducible rfl
              rotate_left
              · simp only [Act.put, List.setIfInBounds_toArray, List.set_cons_zero, List.set_cons_succ, i64_w, i32_w]
                rfl
              refine pure_ (i := 1) (N := some 77) (v := ?_) (a' := ?_) #[true, true, false, false, false, false, false, false, false, false, false, false, false, false, false, false] rfl rfl (by kernel_rfl) (fun _ _ _ h => h) (Or.inl ⟨by rfl, ?_⟩) ?_ ?_
              rotate_left
              · intro w'
                go_simp
                with_reducible rfl
              rotate_left
              · simp only [Act.put, List.setIfInBounds_toArray, List.set_cons_zero, List.set_cons_succ, i64_w, i32_w]
                rfl
              refine pure_ (i := 3) (N := some 79) (v := ?_) (a' := ?_) #[true, true, false, true, false, false, false, false, false, false, false, false, false, false, false, false] rfl rfl (by kernel_rfl) (fun _ _ _ h => h) (Or.inl ⟨by rfl, ?_⟩) ?_ ?_
              rotate_left
              · intro w'
                go_simp
                with_reducible rfl
              rotate_left
              · simp only [Act.put, List.setIfInBounds_toArray, List.set_cons_zero, List.set_cons_succ, i64_w, i32_w]
                rfl
              refine pure_ (i := 6) (N := some 82) (v := ?_) (a' := ?_) #[true, true, false, true, false, false, true, false, false, false, false, false, false, false, false, false] rfl rfl (by kernel_rfl) (fun _ _ _ h => h) (Or.inl ⟨by rfl, ?_⟩) ?_ ?_
              rotate_left
              · intro w'
                go_simp
                with_reducible rfl
              rotate_left
              · simp only [Act.put, List.setIfInBounds_toArray, List.set_cons_zero, List.set_cons_succ, i64_w, i32_w]
                rfl
              refine pure_ (i := 8) (N := some 84) (v := ?_) (a' := ?_) #[true, true, false, true, false, false, true, false, true, false, false, false, false, false, false, false] rfl rfl (by kernel_rfl) (fun _ _ _ h => h) (Or.inl ⟨by rfl, ?_⟩) ?_ ?_
              rotate_left
              · intro w'
                go_simp
                with_reducible rfl
              rotate_left
              · simp only [Act.put, List.setIfInBounds_toArray, List.set_cons_zero, List.set_cons_succ, i64_w, i32_w]
                rfl
              refine pure_ (i := 11) (N := some 87) (v := ?_) (a' := ?_) #[true, true, false, true, false, false, true, false, true, false, false, true, false, false, false, false] rfl rfl (by kernel_rfl) (fun _ _ _ h => h) (Or.inl ⟨by rfl, ?_⟩) ?_ ?_
              rotate_left
              · intro w'
                go_simp
                with_reducible rfl
              rotate_left
              · simp only [Act.put, List.setIfInBounds_toArray, List.set_cons_zero, List.set_cons_succ, i64_w, i32_w]
                rfl
              refine take_ (i := 2) (N := some 78) (v := ?_) (a' := ?_) #[true, true, true, true, false, false, true, false, true, false, false, true, false, false, false, false] rfl rfl (by kernel_rfl) (fun _ _ _ h => h) (Or.inl ⟨by rfl, ?_⟩) hHeld ?_ ?_
              rotate_left
              · rintro w' ⟨s0, s1, s2, s3, s4, s5⟩
                go_simp
                with_reducible rfl
              rotate_left
              · simp only [Act.put, List.setIfInBounds_toArray, List.set_cons_zero, List.set_cons_succ, i64_w, i32_w]
                rfl
              refine take_ (i := 4) (N := some 80) (v := ?_) (a' := ?_) #[true, true, true, true, true, false, true, false, true, false, false, true, false, false, false, false] rfl rfl (by kernel_rfl) (fun _ _ _ h => h) (Or.inl ⟨by rfl, ?_⟩) hHeld ?_ ?_
              rotate_left
              · rintro w' ⟨s0, s1, s2, s3, s4, s5⟩
                go_simp
                with_reducible rfl
              rotate_left
              · simp only [Act.put, List.setIfInBounds_toArray, List.set_cons_zero, List.set_cons_succ, i64_w, i32_w]
                rfl
              refine take_ (i := 7) (N := some 83) (v := ?_) (a' := ?_) #[true, true, true, true, true, false, true, true, true, false, false, true, false, false, false, false] rfl rfl (by kernel_rfl) (fun _ _ _ h => h) (Or.inl ⟨by rfl, ?_⟩) hHeld ?_ ?_
              rotate_left
              · rintro w' ⟨s0, s1, s2, s3, s4, s5⟩
                go_simp
                with_reducible rfl
              rotate_left
              · simp only [Act.put, List.setIfInBounds_toArray, List.set_cons_zero, List.set_cons_succ, i64_w, i32_w]
                rfl
              refine take_ (i := 9) (N := some 85) (v := ?_) (a' := ?_) #[true, true, true, true, true, false, true, true, true, true, false, true, false, false, false, false] rfl rfl (by kernel_rfl) (fun _ _ _ h => h) (Or.inl ⟨by rfl, ?_⟩) hHeld ?_ ?_
              rotate_left
              · rintro w' ⟨s0, s1, s2, s3, s4, s5⟩
                go_simp
                with_reducible rfl
              rotate_left
              · simp only [Act.put, List.setIfInBounds_toArray, List.set_cons_zero, List.set_cons_succ, i64_w, i32_w]
                rfl
              refine one_ (i := 5) (N := some 81) #[true, true, true, true, true, true, true, true, true, true, false, true, false, false, false, false] rfl rfl (by kernel_rfl) (by decide) (fun K hK => ?_)
              refine goes_ Try.func20 (by kernel_rfl) rfl _ (by rfl) rfl rfl (by simp only [List.map_toArray, List.map_cons, List.map_nil]; rfl) ?_
              refine (of_calls s.x s.y s.hd _).mono ?_
              rintro e w8 ⟨p1, q1, hp1, hq1, rfl, hb1⟩
              refine ⟨_, rfl, ?_⟩
              have hB := below_step (below_drew1 hB) hb1
              have hown := pw_own_below (own_drew hown) hb1
              refine hK.out _ _ ⟨pw_cell_below hb1 (hHeld.1), pw_cell_below hb1 (hHeld.2.1), pw_cell_below hb1 (hHeld.2.2.1), pw_cell_below hb1 (hHeld.2.2.2.1), pw_cell_below hb1 (hHeld.2.2.2.2.1), pw_cell_below hb1 (hHeld.2.2.2.2.2)⟩ (fun hHeld => ?_)
              clear hK K
              refine norm_ (a' := ?_) ?_ ?_
              rotate_left
              · show Act.put _ (some 81) _ = _
                simp only [Act.put, List.setIfInBounds_toArray, List.set_cons_zero, List.set_cons_succ, i64_w, i32_w]
                rfl
              refine one_ (i := 10) (N := some 86) #[true, true, true, true, true, true, true, true, true, true, true, true, false, false, false, false] rfl rfl (by kernel_rfl) (by decide) (fun K hK => ?_)
              refine goes_ Try.func20 (by kernel_rfl) rfl _ (by rfl) rfl rfl (by simp only [List.map_toArray, List.map_cons, List.map_nil]; rfl) ?_
              refine (of_calls r.x r.y r.hd _).mono ?_
              rintro e w8 ⟨p2, q2, hp2, hq2, rfl, hb2⟩
              refine ⟨_, rfl, ?_⟩
              have hB := below_step hB hb2
              have hown := pw_own_below hown hb2
              refine hK.out _ _ ⟨pw_cell_below hb2 (hHeld.1), pw_cell_below hb2 (hHeld.2.1), pw_cell_below hb2 (hHeld.2.2.1), pw_cell_below hb2 (hHeld.2.2.2.1), pw_cell_below hb2 (hHeld.2.2.2.2.1), pw_cell_below hb2 (hHeld.2.2.2.2.2)⟩ (fun hHeld => ?_)
              clear hK K
              refine norm_ (a' := ?_) ?_ ?_
              rotate_left
              · show Act.put _ (some 86) _ = _
                simp only [Act.put, List.setIfInBounds_toArray, List.set_cons_zero, List.set_cons_succ, i64_w, i32_w]
                rfl
              refine one_ (i := 12) (N := some 88) #[true, true, true, true, true, true, true, true, true, true, true, true, true, false, false, false] rfl rfl (by kernel_rfl) (by decide) (fun K hK => ?_)
              refine goes_ Try.func12 (by kernel_rfl) rfl _ (by rfl) rfl rfl (by simp only [List.map_toArray, List.map_cons, List.map_nil]; rfl) ?_
              refine (mix_calls p1 q1 _ p2 q2 _ t _).mono ?_
              rintro e w8 ⟨x3, y3, z3, hx3, hy3, hz3, rfl, hb3⟩
              refine ⟨_, rfl, ?_⟩
              have hB := below_step hB hb3
              have hown := pw_own_below hown hb3
              refine hK.out _ _ ⟨pw_cell_below hb3 (hHeld.1), pw_cell_below hb3 (hHeld.2.1), pw_cell_below hb3 (hHeld.2.2.1), pw_cell_below hb3 (hHeld.2.2.2.1), pw_cell_below hb3 (hHeld.2.2.2.2.1), pw_cell_below hb3 (hHeld.2.2.2.2.2)⟩ (fun hHeld => ?_)
              clear hK K
              refine norm_ (a' := ?_) ?_ ?_
              rotate_left
              · show Act.put _ (some 88) _ = _
                simp only [Act.put, List.setIfInBounds_toArray, List.set_cons_zero, List.set_cons_succ, i64_w, i32_w]
                rfl
              refine one_ (i := 13) (N := some 89) #[true, true, true, true, true, true, true, true, true, true, true, true, true, true, false, false] rfl rfl (by kernel_rfl) (by decide) (fun K hK => ?_)
              refine value_ (w1 := ?_) (v := ?_) (by rfl) rfl ?_ ?_
              rotate_left 2
              · go_simp
                constructor
                · rfl
                · rfl
              refine hK.out _ _ ⟨pw_cell_below (below_alloc (Below.refl _ _) _) (hHeld.1), pw_cell_below (below_alloc (Below.refl _ _) _) (hHeld.2.1), pw_cell_below (below_alloc (Below.refl _ _) _) (hHeld.2.2.1), pw_cell_below (below_alloc (Below.refl _ _) _) (hHeld.2.2.2.1), pw_cell_below (below_alloc (Below.refl _ _) _) (hHeld.2.2.2.2.1), pw_cell_below (below_alloc (Below.refl _ _) _) (hHeld.2.2.2.2.2)⟩ (fun hHeld => ?_)
              clear hK K
              refine norm_ (a' := ?_) ?_ ?_
              rotate_left
              · show Act.put _ (some 89) _ = _
                simp only [Act.put, List.setIfInBounds_toArray, List.set_cons_zero, List.set_cons_succ, i64_w, i32_w]
                rfl
              refine last_ (i := 14) (N := some 90) #[true, true, true, true, true, true, true, true, true, true, true, true, true, true, true, false] rfl rfl (by kernel_rfl) (by decide) (fun K hK => ?_)
              refine step_append_cells (w0 := w2) w2.heap.size (by rfl) (.tmp 76) (.tmp 89) 51 24 (.agg #[.float .f32 0, .float .f32 0, .float .f32 0]) 3 12 rfl Try.underlying51 (by kernel_rfl) rfl (by decide) (by decide) _ ps.length (rowP ps) [.float .f32 x3, .float .f32 y3, .float .f32 z3] rfl rfl rfl (by simp [Value.oneCell']) hown hB hB.size (by omega) ?_
              intro v9 w9 hown9 hB9 hg9 hat9
              refine hK.out _ _ ?_
              clear hK K
              refine norm_ (a' := ?_) ?_ ?_
              rotate_left
              · show Act.put _ (some 90) _ = _
                simp only [Act.put, List.setIfInBounds_toArray, List.set_cons_zero, List.set_cons_succ, i64_w, i32_w]
                rfl
              refine pure_ (i := 15) (N := some 7) (v := ?_) (a' := ?_) #[true, true, true, true, true, true, true, true, true, true, true, true, true, true, true, true] rfl rfl (by kernel_rfl) (fun _ _ _ h => h) (Or.inl ⟨by rfl, ?_⟩) ?_ ?_
              rotate_left
              · intro w'
                go_simp
                with_reducible rfl
              rotate_left
              · simp only [Act.put, List.setIfInBounds_toArray, List.set_cons_zero, List.set_cons_succ, i64_w, i32_w]
                rfl
              refine done_ (by kernel_rfl) ?_

              have hown := own_more hown9
              have HPN := Aside0.mk (HP.out.snoc (pf_mix (p := s.p) (q := r.p) hx3 hy3 hz3 hp1 hq1 (Fe.refl _) hp2 hq2 (Fe.refl _)))
              have hB := hB9
              clear hown9 hB9 hx3 hy3 hz3 hp1 hq1 hp2 hq2
              go_wp2
              go_roundw
              case rel => exact ⟨k + 1, _, by omega, by go_num, ⟨hown⟩, ⟨by rw [HST.out, HM.out, ← List.append_assoc]; exact HPN.out⟩, ⟨hB⟩⟩
              case measure => simp [intOf]; omega
            · have e5 : (s.id == r.id) = false := beq_eq_false_iff_ne.2 h5
              have HA2 := Aside0.mk (HA.out.step (by rw [HR.out]; exact meets_no2 h5))
              clear h4 h5
              go_wp2_with (first
                | ((with_reducible refine gate_dst (N := 63) rfl ?_); refine wpList_load_at rfl 55 (.tmp 62) rfl _ rfl [.int .i64 r.ki, .int .i64 r.id, .int .i64 r.x, .int .i64 r.y, .int .i64 r.hd] _ Try.underlying55 rfl (by kernel_rfl) hd ?_)
                | ((with_reducible refine gate_dst (N := 11) rfl ?_); refine box_event ?hg (N := 11) ?hd (cs := #[.int .i64 0, .int .i64 0, .int .i64 0, .int .i64 0, .int .i64 0]) (t := 55) ?hr ?_; (case hd => rfl); (case hg => rfl); (case hr => first | (go_simp; done) | (go_simp; rfl)); intro g11 eg11 w15 Xg11 Bg11; have hg11 : wi.heap.size ≤ g11 := Nat.le_of_eq eg11.symm; have n11 : g9 ≠ g11 := (by have := blk_lt Xg9; omega); clear eg11)
                | ((with_reducible refine gate_store (t := 55) (p := 11) rfl ?_); refine wpList_store_blk rfl 55 (.tmp 11) (.tmp 63) rfl g11 [.int .i64 r.ki, .int .i64 r.id, .int .i64 r.x, .int .i64 r.y, .int .i64 r.hd] rfl rfl 55 _ Xg11 (by kernel_rfl) rfl rfl ?_; intro w16 Xs hb6 hk6 hz6; have hBr := hb6 _ _ Bg11 hg11; have hB := below_step hB hBr; have hBi := below_step hBi hBr; have hown := pw_own_below hown hBr; have Xg9 := blk_below Xg9 hBr; have hsz := hBr.size; clear hb6 hk6 Xg11 Bg11 hBr; have Xg11 := Xs; clear Xs; have cg9_0 : w16.cell? ⟨g9, 0, none⟩ = some (.int .i64 s.ki) := (blk_cell Xg9 0).trans rfl; have cg9_1 : w16.cell? ⟨g9, 1, none⟩ = some (.int .i64 s.id) := (blk_cell Xg9 1).trans rfl; have cg9_2 : w16.cell? ⟨g9, 2, none⟩ = some (.int .i64 s.x) := (blk_cell Xg9 2).trans rfl; have cg9_3 : w16.cell? ⟨g9, 3, none⟩ = some (.int .i64 s.y) := (blk_cell Xg9 3).trans rfl; have cg9_4 : w16.cell? ⟨g9, 4, none⟩ = some (.int .i64 s.hd) := (blk_cell Xg9 4).trans rfl; have cg11_0 : w16.cell? ⟨g11, 0, none⟩ = some (.int .i64 r.ki) := (blk_cell Xg11 0).trans rfl; have cg11_1 : w16.cell? ⟨g11, 1, none⟩ = some (.int .i64 r.id) := (blk_cell Xg11 1).trans rfl; have cg11_2 : w16.cell? ⟨g11, 2, none⟩ = some (.int .i64 r.x) := (blk_cell Xg11 2).trans rfl; have cg11_3 : w16.cell? ⟨g11, 3, none⟩ = some (.int .i64 r.y) := (blk_cell Xg11 3).trans rfl; have cg11_4 : w16.cell? ⟨g11, 4, none⟩ = some (.int .i64 r.hd) := (blk_cell Xg11 4).trans rfl))
              go_roundw
              case rel => exact ⟨m + 1, by omega, by go_num, rfl, HA2, ⟨hBi⟩⟩
              case measure => simp [intOf]; omega
          · have e4 : (s.ki == r.ki) = false := beq_eq_false_iff_ne.2 h4
            have HA2 := Aside0.mk (HA.out.step (by rw [HR.out]; exact meets_no1 h4))
            clear h4
            go_wp2_with (first
                | ((with_reducible refine gate_dst (N := 63) rfl ?_); refine wpList_load_at rfl 55 (.tmp 62) rfl _ rfl [.int .i64 r.ki, .int .i64 r.id, .int .i64 r.x, .int .i64 r.y, .int .i64 r.hd] _ Try.underlying55 rfl (by kernel_rfl) hd ?_)
                | ((with_reducible refine gate_dst (N := 11) rfl ?_); refine box_event ?hg (N := 11) ?hd (cs := #[.int .i64 0, .int .i64 0, .int .i64 0, .int .i64 0, .int .i64 0]) (t := 55) ?hr ?_; (case hd => rfl); (case hg => rfl); (case hr => first | (go_simp; done) | (go_simp; rfl)); intro g11 eg11 w15 Xg11 Bg11; have hg11 : wi.heap.size ≤ g11 := Nat.le_of_eq eg11.symm; have n11 : g9 ≠ g11 := (by have := blk_lt Xg9; omega); clear eg11)
                | ((with_reducible refine gate_store (t := 55) (p := 11) rfl ?_); refine wpList_store_blk rfl 55 (.tmp 11) (.tmp 63) rfl g11 [.int .i64 r.ki, .int .i64 r.id, .int .i64 r.x, .int .i64 r.y, .int .i64 r.hd] rfl rfl 55 _ Xg11 (by kernel_rfl) rfl rfl ?_; intro w16 Xs hb6 hk6 hz6; have hBr := hb6 _ _ Bg11 hg11; have hB := below_step hB hBr; have hBi := below_step hBi hBr; have hown := pw_own_below hown hBr; have Xg9 := blk_below Xg9 hBr; have hsz := hBr.size; clear hb6 hk6 Xg11 Bg11 hBr; have Xg11 := Xs; clear Xs; have cg9_0 : w16.cell? ⟨g9, 0, none⟩ = some (.int .i64 s.ki) := (blk_cell Xg9 0).trans rfl; have cg9_1 : w16.cell? ⟨g9, 1, none⟩ = some (.int .i64 s.id) := (blk_cell Xg9 1).trans rfl; have cg9_2 : w16.cell? ⟨g9, 2, none⟩ = some (.int .i64 s.x) := (blk_cell Xg9 2).trans rfl; have cg9_3 : w16.cell? ⟨g9, 3, none⟩ = some (.int .i64 s.y) := (blk_cell Xg9 3).trans rfl; have cg9_4 : w16.cell? ⟨g9, 4, none⟩ = some (.int .i64 s.hd) := (blk_cell Xg9 4).trans rfl; have cg11_0 : w16.cell? ⟨g11, 0, none⟩ = some (.int .i64 r.ki) := (blk_cell Xg11 0).trans rfl; have cg11_1 : w16.cell? ⟨g11, 1, none⟩ = some (.int .i64 r.id) := (blk_cell Xg11 1).trans rfl; have cg11_2 : w16.cell? ⟨g11, 2, none⟩ = some (.int .i64 r.x) := (blk_cell Xg11 2).trans rfl; have cg11_3 : w16.cell? ⟨g11, 3, none⟩ = some (.int .i64 r.y) := (blk_cell Xg11 3).trans rfl; have cg11_4 : w16.cell? ⟨g11, 4, none⟩ = some (.int .i64 r.hd) := (blk_cell Xg11 4).trans rfl))
            go_roundw
            case rel => exact ⟨m + 1, by omega, by go_num, rfl, HA2, ⟨hBi⟩⟩
            case measure => simp [intOf]; omega
        · obtain rfl : m = bn := by omega
          have HM := Aside0.mk (hits_none (t := t) (by rw [hR2.len]; exact HA.out))
          go_wp2_with fail
          go_roundw
          case rel => exact ⟨k + 1, _, by omega, by go_num, ⟨hown⟩, ⟨by rw [HST.out, HM.out, List.append_nil]; exact HP.out⟩, ⟨hB⟩⟩
          case measure => simp [intOf]; omega
    · obtain rfl : k = an := by omega
      obtain ⟨A, c, rfl, _, _⟩ := own_prow hown
      have hHP : PFs ps (ownB apl bpl awt bwt (ofP au av ahd) (ofP bu bv bhd) t ++ seenB ss rs t) := by
        have := HP.out
        rwa [List.take_of_length_le (Nat.le_of_eq hS2.len)] at this
      have HP := Aside0.mk hHP
      clear hHP
      go_wp2_with fail
      go_ret
      exact ⟨A, c, ps, rfl, own_less hown hB0.size, HP.out, below_step hB0 hB⟩

set_option maxHeartbeats 8000000 in
set_option maxRecDepth 100000 in
theorem between_calls_1 (atk apl au av avx avy ahd ahe aen aam aco awt asp asc : Int) (anm : ByteArray) (aA : Option Addr) (an ac : Nat) (btk bpl bu bv bvx bvy bhd bhe ben bam bco bwt bsp bsc : Int) (bnm : ByteArray) (bA : Option Addr) (bn bc : Nat) (t : Nat) (w : World) (ss rs : List S5) (hS : SRow w aA an ss) (hR : SRow w bA bn rs) (hn : an * 12 + 12 ≤ 140737488355328) (hm : bn ≤ 9223372036854775807) (h1 : ¬ apl = bpl) : Calls Try.prog 26 #[.agg #[.int .u64 atk, .int .i64 apl, .string anm, .int .i64 au, .int .i64 av, .int .i64 avx, .int .i64 avy, .int .i64 ahd, .int .i64 ahe, .int .i64 aen, .int .i64 aam, .int .i64 aco, .int .i64 awt, .int .i64 asp, .int .i64 asc, .slice aA an ac], .agg #[.int .u64 btk, .int .i64 bpl, .string bnm, .int .i64 bu, .int .i64 bv, .int .i64 bvx, .int .i64 bvy, .int .i64 bhd, .int .i64 bhe, .int .i64 ben, .int .i64 bam, .int .i64 bco, .int .i64 bwt, .int .i64 bsp, .int .i64 bsc, .slice bA bn bc], .float .f32 t] w fun e w' => ∃ A c ps, e = .returned (.slice A ps.length c) ∧ OwnP w' w.heap.size (.slice A ps.length c) ps ∧ PFs ps (ownB apl bpl awt bwt (ofP au av ahd) (ofP bu bv bhd) t ++ seenB ss rs t) ∧ Below w.heap.size w w' := by
  have hu47 := Try.underlying47
  have hu40 := Try.underlying40
  have hu38 := Try.underlying38
  have hu55 := Try.underlying55
  have hu45 := Try.underlying45
  have hu51 := Try.underlying51
  have hu24 := Try.underlying24
  have hu3 := Try.underlying3
  have hnn : (an : Int) ≤ 9223372036854775807 := by omega
  have hmm : (bn : Int) ≤ 9223372036854775807 := by omega
  have e1 : (apl == bpl) = false := beq_eq_false_iff_ne.2 h1
  have HO := Aside0.mk (show ownB apl bpl awt bwt (ofP au av ahd) (ofP bu bv bhd) t = [] from if_neg (fun h => h1 h.1))
  clear h1
  go_enter Try.func26, Try.ntmps26
  go_wp2_with (first
        | ((try (refine gate_guard (by rfl) ?_; dsimp only)); refine wpList_fl _ rfl _ _ _ _ _ rfl (by decide) _ _ _ _ rfl rfl (by first | assumption | exact Fe.refl _) (by first | assumption | exact Fe.refl _) ?_; intro z nd hz)
        | ((try (refine gate_guard (by rfl) ?_; dsimp only)); refine wpList_flc _ rfl _ _ _ _ _ rfl (by decide) _ _ _ _ rfl rfl (by first | assumption | exact Fe.refl _) (by first | assumption | exact Fe.refl _) ?_)
        | ((with_reducible refine gate_dst (N := 3) rfl ?_); refine box_event ?hg (N := 3) ?hd (cs := #[.int .u64 atk, .int .i64 apl, .string anm, .int .i64 au, .int .i64 av, .int .i64 avx, .int .i64 avy, .int .i64 ahd, .int .i64 ahe, .int .i64 aen, .int .i64 aam, .int .i64 aco, .int .i64 awt, .int .i64 asp, .int .i64 asc, .slice aA an ac]) (t := 47) ?hr ?_; (case hd => rfl); (case hg => rfl); (case hr => first | (go_simp; done) | (go_simp; rfl)); intro g3 eg3 w1 Xg3 Bg3; clear eg3)
        | ((with_reducible refine gate_dst (N := 4) rfl ?_); refine box_event ?hg (N := 4) ?hd (cs := #[.int .u64 btk, .int .i64 bpl, .string bnm, .int .i64 bu, .int .i64 bv, .int .i64 bvx, .int .i64 bvy, .int .i64 bhd, .int .i64 bhe, .int .i64 ben, .int .i64 bam, .int .i64 bco, .int .i64 bwt, .int .i64 bsp, .int .i64 bsc, .slice bA bn bc]) (t := 47) ?hr ?_; (case hd => rfl); (case hg => rfl); (case hr => first | (go_simp; done) | (go_simp; rfl)); intro g4 eg4 w2 Xg4 Bg4; have Xg3 := blk_below Xg3 Bg4; have hB0 := below_step Bg3 Bg4; have hS2 := (hS.below Bg3).below Bg4; have hR2 := (hR.below Bg3).below Bg4; have hB := Below.refl w2.heap.size w2; have lg3 := blk_lt Xg3; have lg4 := blk_lt Xg4; clear eg4 Bg3 Bg4 hS hR; have cg3_1 : w2.cell? ⟨g3, 1, none⟩ = some (.int .i64 apl) := (blk_cell Xg3 1).trans rfl; have cg3_3 : w2.cell? ⟨g3, 3, none⟩ = some (.int .i64 au) := (blk_cell Xg3 3).trans rfl; have cg3_4 : w2.cell? ⟨g3, 4, none⟩ = some (.int .i64 av) := (blk_cell Xg3 4).trans rfl; have cg3_7 : w2.cell? ⟨g3, 7, none⟩ = some (.int .i64 ahd) := (blk_cell Xg3 7).trans rfl; have cg3_12 : w2.cell? ⟨g3, 12, none⟩ = some (.int .i64 awt) := (blk_cell Xg3 12).trans rfl; have cg3_15 : w2.cell? ⟨g3, 15, none⟩ = some (.slice aA an ac) := (blk_cell Xg3 15).trans rfl; have cg4_1 : w2.cell? ⟨g4, 1, none⟩ = some (.int .i64 bpl) := (blk_cell Xg4 1).trans rfl; have cg4_3 : w2.cell? ⟨g4, 3, none⟩ = some (.int .i64 bu) := (blk_cell Xg4 3).trans rfl; have cg4_4 : w2.cell? ⟨g4, 4, none⟩ = some (.int .i64 bv) := (blk_cell Xg4 4).trans rfl; have cg4_7 : w2.cell? ⟨g4, 7, none⟩ = some (.int .i64 bhd) := (blk_cell Xg4 7).trans rfl; have cg4_12 : w2.cell? ⟨g4, 12, none⟩ = some (.int .i64 bwt) := (blk_cell Xg4 12).trans rfl; have cg4_15 : w2.cell? ⟨g4, 15, none⟩ = some (.slice bA bn bc) := (blk_cell Xg4 15).trans rfl))
  have hown : OwnP w2 w2.heap.size (.slice none 0 0) [] := own_nil _ _ _ _
  have HPF := Aside0.mk (PFs.refl [])
  go_wp2_with fail
  go_loopw [7, 53] (fun v i wr => ∃ (k : Nat) (ps : List P3), k ≤ an ∧ i = .int .i64 k ∧ Aside0 (OwnP wr w2.heap.size v ps) ∧ Aside0 (PFs ps (ownB apl bpl awt bwt (ofP au av ahd) (ofP bu bv bhd) t ++ seenB (ss.take k) rs t)) ∧ Aside0 (Below w2.heap.size w2 wr)) (fun _ i _ => an - (intOf i).toNat)
  case atStart => exact ⟨0, _, Nat.zero_le _, rfl, ⟨hown⟩, ⟨by rw [List.take_zero, seenB_nil, List.append_nil, HO.out]; exact HPF.out⟩, ⟨hB⟩⟩
  case round =>
    clear hown HPF hB cg3_1 cg3_3 cg3_4 cg3_7 cg3_12 cg3_15 cg4_1 cg4_3 cg4_4 cg4_7 cg4_12 cg4_15
    obtain ⟨k, ps, hk, rfl, HW, HP, HB⟩ := hrel
    have hown := HW.out
    have hB := HB.out
    clear HW HB
    obtain ⟨vo, rfl⟩ : ∃ vo, vo = u7 := ⟨_, rfl⟩
    obtain ⟨wo, rfl⟩ : ∃ wo, wo = wr := ⟨_, rfl⟩
    by_cases hlt : k < an
    · obtain ⟨ad, eA, hc⟩ := (hS2.below hB).at_ k hlt
      subst eA
      have hlk : k < ss.length := by rw [hS2.len]; exact hlt
      have hle : ps.length * 12 + 12 ≤ 140737488355328 := ps_bound HP.out (ownB_le _ _ _ _ _ _ _) hlt hn
      have HST := Aside0.mk (seenB_step ss rs t k hlk)
      generalize ss.getD k default = s at hc HST
      have hc : At wo (ad.add (k * 5)) [.int .i64 s.ki, .int .i64 s.id, .int .i64 s.x, .int .i64 s.y, .int .i64 s.hd] := hc
      have hk2 : (k : Int) < (an : Int) := Int.ofNat_lt.mpr hlt
      have hk0 : (0 : Int) ≤ k := Int.natCast_nonneg k
      go_wp2_with (first
        | ((with_reducible refine gate_dst (N := 56) rfl ?_); refine wpList_load_at rfl 55 (.tmp 55) rfl _ rfl [.int .i64 s.ki, .int .i64 s.id, .int .i64 s.x, .int .i64 s.y, .int .i64 s.hd] _ Try.underlying55 rfl (by kernel_rfl) hc ?_)
        | ((with_reducible refine gate_dst (N := 9) rfl ?_); refine box_event ?hg (N := 9) ?hd (cs := #[.int .i64 0, .int .i64 0, .int .i64 0, .int .i64 0, .int .i64 0]) (t := 55) ?hr ?_; (case hd => rfl); (case hg => rfl); (case hr => first | (go_simp; done) | (go_simp; rfl)); intro g9 eg9 w5 Xg9 Bg9; have hg9 : wo.heap.size ≤ g9 := Nat.le_of_eq eg9.symm; clear eg9)
        | ((with_reducible refine gate_store (t := 55) (p := 9) rfl ?_); refine wpList_store_blk rfl 55 (.tmp 9) (.tmp 56) rfl g9 [.int .i64 s.ki, .int .i64 s.id, .int .i64 s.x, .int .i64 s.y, .int .i64 s.hd] rfl rfl 55 _ Xg9 (by kernel_rfl) rfl rfl ?_; intro w6 Xs hb6 hk6 hz6; have hBr := hb6 _ _ Bg9 hg9; have hB6 := below_step hB hBr; have hown6 := pw_own_below hown hBr; clear hb6 hk6 Xg9 Bg9; have Xg9 := Xs; clear Xs; have cg9_0 : w6.cell? ⟨g9, 0, none⟩ = some (.int .i64 s.ki) := (blk_cell Xg9 0).trans rfl; have cg9_1 : w6.cell? ⟨g9, 1, none⟩ = some (.int .i64 s.id) := (blk_cell Xg9 1).trans rfl; have cg9_2 : w6.cell? ⟨g9, 2, none⟩ = some (.int .i64 s.x) := (blk_cell Xg9 2).trans rfl; have cg9_3 : w6.cell? ⟨g9, 3, none⟩ = some (.int .i64 s.y) := (blk_cell Xg9 3).trans rfl; have cg9_4 : w6.cell? ⟨g9, 4, none⟩ = some (.int .i64 s.hd) := (blk_cell Xg9 4).trans rfl; have cg4_15 : w6.cell? ⟨g4, 15, none⟩ = some (.slice bA bn bc) := (blk_cell (blk_below Xg4 hB6) 15).trans rfl))
      go_loopw [7, 60] (fun v j wi => ∃ m : Nat, m ≤ bn ∧ j = .int .i64 m ∧ v = vo ∧ Aside0 (Apart s rs m) ∧ Aside0 (Below w6.heap.size w6 wi)) (fun _ j _ => bn - (intOf j).toNat)
      case atStart => exact ⟨0, Nat.zero_le _, rfl, rfl, ⟨Apart.zero _ _⟩, ⟨Below.refl _ _⟩⟩
      case round =>
        clear cg4_15 cg9_0 cg9_1 cg9_2 cg9_3 cg9_4
        obtain ⟨m, hmb, rfl, hv, HA, HBi⟩ := hrel
        have hBi := HBi.out
        clear HBi
        subst hv
        obtain ⟨wi, rfl⟩ : ∃ wi, wi = wr := ⟨_, rfl⟩
        have hown := pw_own_below hown6 hBi
        have hB := below_step hB6 hBi
        have Xg9 := blk_below Xg9 hBi
        clear hown6 hB6
        by_cases hlm : m < bn
        · obtain ⟨bd, eB, hd⟩ := (hR2.below hB).at_ m hlm
          subst eB
          have hlr : m < rs.length := by rw [hR2.len]; exact hlm
          obtain ⟨r, hr⟩ : ∃ r, rs.getD m default = r := ⟨_, rfl⟩
          rw [hr] at hd
          have HR := Aside0.mk hr
          clear hr
          have hd : At wi (bd.add (m * 5)) [.int .i64 r.ki, .int .i64 r.id, .int .i64 r.x, .int .i64 r.y, .int .i64 r.hd] := hd
          have hm2 : (m : Int) < (bn : Int) := Int.ofNat_lt.mpr hlm
          have hm0 : (0 : Int) ≤ m := Int.natCast_nonneg m
          by_cases h4 : s.ki = r.ki
          · have e4 : (s.ki == r.ki) = true := beq_iff_eq.2 h4
            by_cases h5 : s.id = r.id
            · have e5 : (s.id == r.id) = true := beq_iff_eq.2 h5
              have HM := Aside0.mk (hits_some (t := t) HA.out hlr (by rw [HR.out]; exact meets_yes h4 h5))
              rw [HR.out] at HM
              clear h4 h5
              go_wp2_with (first
                | ((with_reducible refine gate_dst (N := 63) rfl ?_); refine wpList_load_at rfl 55 (.tmp 62) rfl _ rfl [.int .i64 r.ki, .int .i64 r.id, .int .i64 r.x, .int .i64 r.y, .int .i64 r.hd] _ Try.underlying55 rfl (by kernel_rfl) hd ?_)
                | ((with_reducible refine gate_dst (N := 11) rfl ?_); refine box_event ?hg (N := 11) ?hd (cs := #[.int .i64 0, .int .i64 0, .int .i64 0, .int .i64 0, .int .i64 0]) (t := 55) ?hr ?_; (case hd => rfl); (case hg => rfl); (case hr => first | (go_simp; done) | (go_simp; rfl)); intro g11 eg11 w15 Xg11 Bg11; have hg11 : wi.heap.size ≤ g11 := Nat.le_of_eq eg11.symm; have n11 : g9 ≠ g11 := (by have := blk_lt Xg9; omega); clear eg11)
                | ((with_reducible refine gate_store (t := 55) (p := 11) rfl ?_); refine wpList_store_blk rfl 55 (.tmp 11) (.tmp 63) rfl g11 [.int .i64 r.ki, .int .i64 r.id, .int .i64 r.x, .int .i64 r.y, .int .i64 r.hd] rfl rfl 55 _ Xg11 (by kernel_rfl) rfl rfl ?_; intro w16 Xs hb6 hk6 hz6; have hBr := hb6 _ _ Bg11 hg11; have hB := below_step hB hBr; have hBi := below_step hBi hBr; have hown := pw_own_below hown hBr; have Xg9 := blk_below Xg9 hBr; have hsz := hBr.size; clear hb6 hk6 Xg11 Bg11 hBr; have Xg11 := Xs; clear Xs; have cg9_0 : w16.cell? ⟨g9, 0, none⟩ = some (.int .i64 s.ki) := (blk_cell Xg9 0).trans rfl; have cg9_1 : w16.cell? ⟨g9, 1, none⟩ = some (.int .i64 s.id) := (blk_cell Xg9 1).trans rfl; have cg9_2 : w16.cell? ⟨g9, 2, none⟩ = some (.int .i64 s.x) := (blk_cell Xg9 2).trans rfl; have cg9_3 : w16.cell? ⟨g9, 3, none⟩ = some (.int .i64 s.y) := (blk_cell Xg9 3).trans rfl; have cg9_4 : w16.cell? ⟨g9, 4, none⟩ = some (.int .i64 s.hd) := (blk_cell Xg9 4).trans rfl; have cg11_0 : w16.cell? ⟨g11, 0, none⟩ = some (.int .i64 r.ki) := (blk_cell Xg11 0).trans rfl; have cg11_1 : w16.cell? ⟨g11, 1, none⟩ = some (.int .i64 r.id) := (blk_cell Xg11 1).trans rfl; have cg11_2 : w16.cell? ⟨g11, 2, none⟩ = some (.int .i64 r.x) := (blk_cell Xg11 2).trans rfl; have cg11_3 : w16.cell? ⟨g11, 3, none⟩ = some (.int .i64 r.y) := (blk_cell Xg11 3).trans rfl; have cg11_4 : w16.cell? ⟨g11, 4, none⟩ = some (.int .i64 r.hd) := (blk_cell Xg11 4).trans rfl))
              refine start_ (n := 16) (S := fun w' => w'.cell? ⟨g9, 2, none⟩ = some (.int .i64 s.x) ∧ w'.cell? ⟨g9, 3, none⟩ = some (.int .i64 s.y) ∧ w'.cell? ⟨g9, 4, none⟩ = some (.int .i64 s.hd) ∧ w'.cell? ⟨g11, 2, none⟩ = some (.int .i64 r.x) ∧ w'.cell? ⟨g11, 3, none⟩ = some (.int .i64 r.y) ∧ w'.cell? ⟨g11, 4, none⟩ = some (.int .i64 r.hd)) (ds := [14]) #[false, false, false, false, false, false, false, false, false, false, false, false, false, false, false, false] (by kernel_rfl) rfl rfl ⟨cg9_2, cg9_3, cg9_4, cg11_2, cg11_3, cg11_4⟩ (fun hHeld => ?_)
              refine pure_ (i := 0) (N := some 76) (v := ?_) (a' := ?_) #[true, false, false, false, false, false, false, false, false, false, false, false, false, false, false, false] rfl rfl (by kernel_rfl) (fun _ _ _ h => h) (Or.inl ⟨by rfl, ?_⟩) ?_ ?_
              rotate_left
              · intro w'
                go_simp
                with_reducible rfl
              rotate_left
              · simp only [Act.put, List.setIfInBounds_toArray, List.set_cons_zero, List.set_cons_succ, i64_w, i32_w]
                rfl
              refine pure_ (i := 1) (N := some 77) (v := ?_) (a' := ?_) #[true, true, false, false, false, false, false, false, false, false, false, false, false, false, false, false] rfl rfl (by kernel_rfl) (fun _ _ _ h => h) (Or.inl ⟨by rfl, ?_⟩) ?_ ?_
              rotate_left
              · intro w'
                go_simp
                with_reducible rfl
              rotate_left
              · simp only [Act.put, List.setIfInBounds_toArray, List.set_cons_zero, List.set_cons_succ, i64_w, i32_w]
                rfl
              refine pure_ (i := 3) (N := some 79) (v := ?_) (a' := ?_) #[true, true, false, true, false, false, false, false, false, false, false, false, false, false, false, false] rfl rfl (by kernel_rfl) (fun _ _ _ h => h) (Or.inl ⟨by rfl, ?_⟩) ?_ ?_
              rotate_left
              · intro w'
                go_simp
                with_reducible rfl
              rotate_left
              · simp only [Act.put, List.setIfInBounds_toArray, List.set_cons_zero, List.set_cons_succ, i64_w, i32_w]
                rfl
              refine pure_ (i := 6) (N := some 82) (v := ?_) (a' := ?_) #[true, true, false, true, false, false, true, false, false, false, false, false, false, false, false, false] rfl rfl (by kernel_rfl) (fun _ _ _ h => h) (Or.inl ⟨by rfl, ?_⟩) ?_ ?_
              rotate_left
              · intro w'
                go_simp
                with_reducible rfl
              rotate_left
              · simp only [Act.put, List.setIfInBounds_toArray, List.set_cons_zero, List.set_cons_succ, i64_w, i32_w]
                rfl
              refine pure_ (i := 8) (N := some 84) (v := ?_) (a' := ?_) #[true, true, false, true, false, false, true, false, true, false, false, false, false, false, false, false] rfl rfl (by kernel_rfl) (fun _ _ _ h => h) (Or.inl ⟨by rfl, ?_⟩) ?_ ?_
              rotate_left
              · intro w'
                go_simp
                with_reducible rfl
              rotate_left
              · simp only [Act.put, List.setIfInBounds_toArray, List.set_cons_zero, List.set_cons_succ, i64_w, i32_w]
                rfl
              refine pure_ (i := 11) (N := some 87) (v := ?_) (a' := ?_) #[true, true, false, true, false, false, true, false, true, false, false, true, false, false, false, false] rfl rfl (by kernel_rfl) (fun _ _ _ h => h) (Or.inl ⟨by rfl, ?_⟩) ?_ ?_
              rotate_left
              · intro w'
                go_simp
                with_reducible rfl
              rotate_left
              · simp only [Act.put, List.setIfInBounds_toArray, List.set_cons_zero, List.set_cons_succ, i64_w, i32_w]
                rfl
              refine take_ (i := 2) (N := some 78) (v := ?_) (a' := ?_) #[true, true, true, true, false, false, true, false, true, false, false, true, false, false, false, false] rfl rfl (by kernel_rfl) (fun _ _ _ h => h) (Or.inl ⟨by rfl, ?_⟩) hHeld ?_ ?_
              rotate_left
              · rintro w' ⟨s0, s1, s2, s3, s4, s5⟩
                go_simp
                with_reducible rfl
              rotate_left
              · simp only [Act.put, List.setIfInBounds_toArray, List.set_cons_zero, List.set_cons_succ, i64_w, i32_w]
                rfl
              refine take_ (i := 4) (N := some 80) (v := ?_) (a' := ?_) #[true, true, true, true, true, false, true, false, true, false, false, true, false, false, false, false] rfl rfl (by kernel_rfl) (fun _ _ _ h => h) (Or.inl ⟨by rfl, ?_⟩) hHeld ?_ ?_
              rotate_left
              · rintro w' ⟨s0, s1, s2, s3, s4, s5⟩
                go_simp
                with_reducible rfl
              rotate_left
              · simp only [Act.put, List.setIfInBounds_toArray, List.set_cons_zero, List.set_cons_succ, i64_w, i32_w]
                rfl
              refine take_ (i := 7) (N := some 83) (v := ?_) (a' := ?_) #[true, true, true, true, true, false, true, true, true, false, false, true, false, false, false, false] rfl rfl (by kernel_rfl) (fun _ _ _ h => h) (Or.inl ⟨by rfl, ?_⟩) hHeld ?_ ?_
              rotate_left
              · rintro w' ⟨s0, s1, s2, s3, s4, s5⟩
                go_simp
                with_reducible rfl
              rotate_left
              · simp only [Act.put, List.setIfInBounds_toArray, List.set_cons_zero, List.set_cons_succ, i64_w, i32_w]
                rfl
              refine take_ (i := 9) (N := some 85) (v := ?_) (a' := ?_) #[true, true, true, true, true, false, true, true, true, true, false, true, false, false, false, false] rfl rfl (by kernel_rfl) (fun _ _ _ h => h) (Or.inl ⟨by rfl, ?_⟩) hHeld ?_ ?_
              rotate_left
              · rintro w' ⟨s0, s1, s2, s3, s4, s5⟩
                go_simp
                with_reducible rfl
              rotate_left
              · simp only [Act.put, List.setIfInBounds_toArray, List.set_cons_zero, List.set_cons_succ, i64_w, i32_w]
                rfl
              refine one_ (i := 5) (N := some 81) #[true, true, true, true, true, true, true, true, true, true, false, true, false, false, false, false] rfl rfl (by kernel_rfl) (by decide) (fun K hK => ?_)
              refine goes_ Try.func20 (by kernel_rfl) rfl _ (by rfl) rfl rfl (by simp only [List.map_toArray, List.map_cons, List.map_nil]; rfl) ?_
              refine (of_calls s.x s.y s.hd _).mono ?_
              rintro e w8 ⟨p1, q1, hp1, hq1, rfl, hb1⟩
              refine ⟨_, rfl, ?_⟩
              have hB := below_step (below_drew1 hB) hb1
              have hown := pw_own_below (own_drew hown) hb1
              refine hK.out _ _ ⟨pw_cell_below hb1 (hHeld.1), pw_cell_below hb1 (hHeld.2.1), pw_cell_below hb1 (hHeld.2.2.1), pw_cell_below hb1 (hHeld.2.2.2.1), pw_cell_below hb1 (hHeld.2.2.2.2.1), pw_cell_below hb1 (hHeld.2.2.2.2.2)⟩ (fun hHeld => ?_)
              clear hK K
              refine norm_ (a' := ?_) ?_ ?_
              rotate_left
              · show Act.put _ (some 81) _ = _
                simp only [Act.put, List.setIfInBounds_toArray, List.set_cons_zero, List.set_cons_succ, i64_w, i32_w]
                rfl
              refine one_ (i := 10) (N := some 86) #[true, true, true, true, true, true, true, true, true, true, true, true, false, false, false, false] rfl rfl (by kernel_rfl) (by decide) (fun K hK => ?_)
              refine goes_ Try.func20 (by kernel_rfl) rfl _ (by rfl) rfl rfl (by simp only [List.map_toArray, List.map_cons, List.map_nil]; rfl) ?_
              refine (of_calls r.x r.y r.hd _).mono ?_
              rintro e w8 ⟨p2, q2, hp2, hq2, rfl, hb2⟩
              refine ⟨_, rfl, ?_⟩
              have hB := below_step hB hb2
              have hown := pw_own_below hown hb2
              refine hK.out _ _ ⟨pw_cell_below hb2 (hHeld.1), pw_cell_below hb2 (hHeld.2.1), pw_cell_below hb2 (hHeld.2.2.1), pw_cell_below hb2 (hHeld.2.2.2.1), pw_cell_below hb2 (hHeld.2.2.2.2.1), pw_cell_below hb2 (hHeld.2.2.2.2.2)⟩ (fun hHeld => ?_)
              clear hK K
              refine norm_ (a' := ?_) ?_ ?_
              rotate_left
              · show Act.put _ (some 86) _ = _
                simp only [Act.put, List.setIfInBounds_toArray, List.set_cons_zero, List.set_cons_succ, i64_w, i32_w]
                rfl
              refine one_ (i := 12) (N := some 88) #[true, true, true, true, true, true, true, true, true, true, true, true, true, false, false, false] rfl rfl (by kernel_rfl) (by decide) (fun K hK => ?_)
              refine goes_ Try.func12 (by kernel_rfl) rfl _ (by rfl) rfl rfl (by simp only [List.map_toArray, List.map_cons, List.map_nil]; rfl) ?_
              refine (mix_calls p1 q1 _ p2 q2 _ t _).mono ?_
              rintro e w8 ⟨x3, y3, z3, hx3, hy3, hz3, rfl, hb3⟩
              refine ⟨_, rfl, ?_⟩
              have hB := below_step hB hb3
              have hown := pw_own_below hown hb3
              refine hK.out _ _ ⟨pw_cell_below hb3 (hHeld.1), pw_cell_below hb3 (hHeld.2.1), pw_cell_below hb3 (hHeld.2.2.1), pw_cell_below hb3 (hHeld.2.2.2.1), pw_cell_below hb3 (hHeld.2.2.2.2.1), pw_cell_below hb3 (hHeld.2.2.2.2.2)⟩ (fun hHeld => ?_)
              clear hK K
              refine norm_ (a' := ?_) ?_ ?_
              rotate_left
              · show Act.put _ (some 88) _ = _
                simp only [Act.put, List.setIfInBounds_toArray, List.set_cons_zero, List.set_cons_succ, i64_w, i32_w]
                rfl
              refine one_ (i := 13) (N := some 89) #[true, true, true, true, true, true, true, true, true, true, true, true, true, true, false, false] rfl rfl (by kernel_rfl) (by decide) (fun K hK => ?_)
              refine value_ (w1 := ?_) (v := ?_) (by rfl) rfl ?_ ?_
              rotate_left 2
              · go_simp
                constructor
                · rfl
                · rfl
              refine hK.out _ _ ⟨pw_cell_below (below_alloc (Below.refl _ _) _) (hHeld.1), pw_cell_below (below_alloc (Below.refl _ _) _) (hHeld.2.1), pw_cell_below (below_alloc (Below.refl _ _) _) (hHeld.2.2.1), pw_cell_below (below_alloc (Below.refl _ _) _) (hHeld.2.2.2.1), pw_cell_below (below_alloc (Below.refl _ _) _) (hHeld.2.2.2.2.1), pw_cell_below (below_alloc (Below.refl _ _) _) (hHeld.2.2.2.2.2)⟩ (fun hHeld => ?_)
              clear hK K
              refine norm_ (a' := ?_) ?_ ?_
              rotate_left
              · show Act.put _ (some 89) _ = _
                simp only [Act.put, List.setIfInBounds_toArray, List.set_cons_zero, List.set_cons_succ, i64_w, i32_w]
                rfl
              refine last_ (i := 14) (N := some 90) #[true, true, true, true, true, true, true, true, true, true, true, true, true, true, true, false] rfl rfl (by kernel_rfl) (by decide) (fun K hK => ?_)
              refine step_append_cells (w0 := w2) w2.heap.size (by rfl) (.tmp 76) (.tmp 89) 51 24 (.agg #[.float .f32 0, .float .f32 0, .float .f32 0]) 3 12 rfl Try.underlying51 (by kernel_rfl) rfl (by decide) (by decide) _ ps.length (rowP ps) [.float .f32 x3, .float .f32 y3, .float .f32 z3] rfl rfl rfl (by simp [Value.oneCell']) hown hB hB.size (by omega) ?_
              intro v9 w9 hown9 hB9 hg9 hat9
              refine hK.out _ _ ?_
              clear hK K
              refine norm_ (a' := ?_) ?_ ?_
              rotate_left
              · show Act.put _ (some 90) _ = _
                simp only [Act.put, List.setIfInBounds_toArray, List.set_cons_zero, List.set_cons_succ, i64_w, i32_w]
                rfl
              refine pure_ (i := 15) (N := some 7) (v := ?_) (a' := ?_) #[true, true, true, true, true, true, true, true, true, true, true, true, true, true, true, true] rfl rfl (by kernel_rfl) (fun _ _ _ h => h) (Or.inl ⟨by rfl, ?_⟩) ?_ ?_
              rotate_left
              · intro w'
                go_simp
                with_reducible rfl
              rotate_left
              · simp only [Act.put, List.setIfInBounds_toArray, List.set_cons_zero, List.set_cons_succ, i64_w, i32_w]
                rfl
              refine done_ (by kernel_rfl) ?_

              have hown := own_more hown9
              have HPN := Aside0.mk (HP.out.snoc (pf_mix (p := s.p) (q := r.p) hx3 hy3 hz3 hp1 hq1 (Fe.refl _) hp2 hq2 (Fe.refl _)))
              have hB := hB9
              clear hown9 hB9 hx3 hy3 hz3 hp1 hq1 hp2 hq2
              go_wp2
              go_roundw
              case rel => exact ⟨k + 1, _, by omega, by go_num, ⟨hown⟩, ⟨by rw [HST.out, HM.out, ← List.append_assoc]; exact HPN.out⟩, ⟨hB⟩⟩
              case measure => simp [intOf]; omega
            · have e5 : (s.id == r.id) = false := beq_eq_false_iff_ne.2 h5
              have HA2 := Aside0.mk (HA.out.step (by rw [HR.out]; exact meets_no2 h5))
              clear h4 h5
              go_wp2_with (first
                | ((with_reducible refine gate_dst (N := 63) rfl ?_); refine wpList_load_at rfl 55 (.tmp 62) rfl _ rfl [.int .i64 r.ki, .int .i64 r.id, .int .i64 r.x, .int .i64 r.y, .int .i64 r.hd] _ Try.underlying55 rfl (by kernel_rfl) hd ?_)
                | ((with_reducible refine gate_dst (N := 11) rfl ?_); refine box_event ?hg (N := 11) ?hd (cs := #[.int .i64 0, .int .i64 0, .int .i64 0, .int .i64 0, .int .i64 0]) (t := 55) ?hr ?_; (case hd => rfl); (case hg => rfl); (case hr => first | (go_simp; done) | (go_simp; rfl)); intro g11 eg11 w15 Xg11 Bg11; have hg11 : wi.heap.size ≤ g11 := Nat.le_of_eq eg11.symm; have n11 : g9 ≠ g11 := (by have := blk_lt Xg9; omega); clear eg11)
                | ((with_reducible refine gate_store (t := 55) (p := 11) rfl ?_); refine wpList_store_blk rfl 55 (.tmp 11) (.tmp 63) rfl g11 [.int .i64 r.ki, .int .i64 r.id, .int .i64 r.x, .int .i64 r.y, .int .i64 r.hd] rfl rfl 55 _ Xg11 (by kernel_rfl) rfl rfl ?_; intro w16 Xs hb6 hk6 hz6; have hBr := hb6 _ _ Bg11 hg11; have hB := below_step hB hBr; have hBi := below_step hBi hBr; have hown := pw_own_below hown hBr; have Xg9 := blk_below Xg9 hBr; have hsz := hBr.size; clear hb6 hk6 Xg11 Bg11 hBr; have Xg11 := Xs; clear Xs; have cg9_0 : w16.cell? ⟨g9, 0, none⟩ = some (.int .i64 s.ki) := (blk_cell Xg9 0).trans rfl; have cg9_1 : w16.cell? ⟨g9, 1, none⟩ = some (.int .i64 s.id) := (blk_cell Xg9 1).trans rfl; have cg9_2 : w16.cell? ⟨g9, 2, none⟩ = some (.int .i64 s.x) := (blk_cell Xg9 2).trans rfl; have cg9_3 : w16.cell? ⟨g9, 3, none⟩ = some (.int .i64 s.y) := (blk_cell Xg9 3).trans rfl; have cg9_4 : w16.cell? ⟨g9, 4, none⟩ = some (.int .i64 s.hd) := (blk_cell Xg9 4).trans rfl; have cg11_0 : w16.cell? ⟨g11, 0, none⟩ = some (.int .i64 r.ki) := (blk_cell Xg11 0).trans rfl; have cg11_1 : w16.cell? ⟨g11, 1, none⟩ = some (.int .i64 r.id) := (blk_cell Xg11 1).trans rfl; have cg11_2 : w16.cell? ⟨g11, 2, none⟩ = some (.int .i64 r.x) := (blk_cell Xg11 2).trans rfl; have cg11_3 : w16.cell? ⟨g11, 3, none⟩ = some (.int .i64 r.y) := (blk_cell Xg11 3).trans rfl; have cg11_4 : w16.cell? ⟨g11, 4, none⟩ = some (.int .i64 r.hd) := (blk_cell Xg11 4).trans rfl))
              go_roundw
              case rel => exact ⟨m + 1, by omega, by go_num, rfl, HA2, ⟨hBi⟩⟩
              case measure => simp [intOf]; omega
          · have e4 : (s.ki == r.ki) = false := beq_eq_false_iff_ne.2 h4
            have HA2 := Aside0.mk (HA.out.step (by rw [HR.out]; exact meets_no1 h4))
            clear h4
            go_wp2_with (first
                | ((with_reducible refine gate_dst (N := 63) rfl ?_); refine wpList_load_at rfl 55 (.tmp 62) rfl _ rfl [.int .i64 r.ki, .int .i64 r.id, .int .i64 r.x, .int .i64 r.y, .int .i64 r.hd] _ Try.underlying55 rfl (by kernel_rfl) hd ?_)
                | ((with_reducible refine gate_dst (N := 11) rfl ?_); refine box_event ?hg (N := 11) ?hd (cs := #[.int .i64 0, .int .i64 0, .int .i64 0, .int .i64 0, .int .i64 0]) (t := 55) ?hr ?_; (case hd => rfl); (case hg => rfl); (case hr => first | (go_simp; done) | (go_simp; rfl)); intro g11 eg11 w15 Xg11 Bg11; have hg11 : wi.heap.size ≤ g11 := Nat.le_of_eq eg11.symm; have n11 : g9 ≠ g11 := (by have := blk_lt Xg9; omega); clear eg11)
                | ((with_reducible refine gate_store (t := 55) (p := 11) rfl ?_); refine wpList_store_blk rfl 55 (.tmp 11) (.tmp 63) rfl g11 [.int .i64 r.ki, .int .i64 r.id, .int .i64 r.x, .int .i64 r.y, .int .i64 r.hd] rfl rfl 55 _ Xg11 (by kernel_rfl) rfl rfl ?_; intro w16 Xs hb6 hk6 hz6; have hBr := hb6 _ _ Bg11 hg11; have hB := below_step hB hBr; have hBi := below_step hBi hBr; have hown := pw_own_below hown hBr; have Xg9 := blk_below Xg9 hBr; have hsz := hBr.size; clear hb6 hk6 Xg11 Bg11 hBr; have Xg11 := Xs; clear Xs; have cg9_0 : w16.cell? ⟨g9, 0, none⟩ = some (.int .i64 s.ki) := (blk_cell Xg9 0).trans rfl; have cg9_1 : w16.cell? ⟨g9, 1, none⟩ = some (.int .i64 s.id) := (blk_cell Xg9 1).trans rfl; have cg9_2 : w16.cell? ⟨g9, 2, none⟩ = some (.int .i64 s.x) := (blk_cell Xg9 2).trans rfl; have cg9_3 : w16.cell? ⟨g9, 3, none⟩ = some (.int .i64 s.y) := (blk_cell Xg9 3).trans rfl; have cg9_4 : w16.cell? ⟨g9, 4, none⟩ = some (.int .i64 s.hd) := (blk_cell Xg9 4).trans rfl; have cg11_0 : w16.cell? ⟨g11, 0, none⟩ = some (.int .i64 r.ki) := (blk_cell Xg11 0).trans rfl; have cg11_1 : w16.cell? ⟨g11, 1, none⟩ = some (.int .i64 r.id) := (blk_cell Xg11 1).trans rfl; have cg11_2 : w16.cell? ⟨g11, 2, none⟩ = some (.int .i64 r.x) := (blk_cell Xg11 2).trans rfl; have cg11_3 : w16.cell? ⟨g11, 3, none⟩ = some (.int .i64 r.y) := (blk_cell Xg11 3).trans rfl; have cg11_4 : w16.cell? ⟨g11, 4, none⟩ = some (.int .i64 r.hd) := (blk_cell Xg11 4).trans rfl))
            go_roundw
            case rel => exact ⟨m + 1, by omega, by go_num, rfl, HA2, ⟨hBi⟩⟩
            case measure => simp [intOf]; omega
        · obtain rfl : m = bn := by omega
          have HM := Aside0.mk (hits_none (t := t) (by rw [hR2.len]; exact HA.out))
          go_wp2_with fail
          go_roundw
          case rel => exact ⟨k + 1, _, by omega, by go_num, ⟨hown⟩, ⟨by rw [HST.out, HM.out, List.append_nil]; exact HP.out⟩, ⟨hB⟩⟩
          case measure => simp [intOf]; omega
    · obtain rfl : k = an := by omega
      obtain ⟨A, c, rfl, _, _⟩ := own_prow hown
      have hHP : PFs ps (ownB apl bpl awt bwt (ofP au av ahd) (ofP bu bv bhd) t ++ seenB ss rs t) := by
        have := HP.out
        rwa [List.take_of_length_le (Nat.le_of_eq hS2.len)] at this
      have HP := Aside0.mk hHP
      clear hHP
      go_wp2_with fail
      go_ret
      exact ⟨A, c, ps, rfl, own_less hown hB0.size, HP.out, below_step hB0 hB⟩

set_option maxHeartbeats 8000000 in
set_option maxRecDepth 100000 in
theorem between_calls (atk apl au av avx avy ahd ahe aen aam aco awt asp asc : Int) (anm : ByteArray) (aA : Option Addr) (an ac : Nat) (btk bpl bu bv bvx bvy bhd bhe ben bam bco bwt bsp bsc : Int) (bnm : ByteArray) (bA : Option Addr) (bn bc : Nat) (t : Nat) (w : World) (ss rs : List S5) (hS : SRow w aA an ss) (hR : SRow w bA bn rs) (hn : an * 12 + 12 ≤ 140737488355328) (hm : bn ≤ 9223372036854775807) : Calls Try.prog 26 #[.agg #[.int .u64 atk, .int .i64 apl, .string anm, .int .i64 au, .int .i64 av, .int .i64 avx, .int .i64 avy, .int .i64 ahd, .int .i64 ahe, .int .i64 aen, .int .i64 aam, .int .i64 aco, .int .i64 awt, .int .i64 asp, .int .i64 asc, .slice aA an ac], .agg #[.int .u64 btk, .int .i64 bpl, .string bnm, .int .i64 bu, .int .i64 bv, .int .i64 bvx, .int .i64 bvy, .int .i64 bhd, .int .i64 bhe, .int .i64 ben, .int .i64 bam, .int .i64 bco, .int .i64 bwt, .int .i64 bsp, .int .i64 bsc, .slice bA bn bc], .float .f32 t] w fun e w' => ∃ A c ps, e = .returned (.slice A ps.length c) ∧ OwnP w' w.heap.size (.slice A ps.length c) ps ∧ PFs ps (ownB apl bpl awt bwt (ofP au av ahd) (ofP bu bv bhd) t ++ seenB ss rs t) ∧ Below w.heap.size w w' := by
  by_cases h1 : apl = bpl
  · by_cases h2 : awt ≤ 0
    · by_cases h3 : bwt ≤ 0
      · exact between_calls_0 atk apl au av avx avy ahd ahe aen aam aco awt asp asc anm aA an ac btk bpl bu bv bvx bvy bhd bhe ben bam bco bwt bsp bsc bnm bA bn bc t w ss rs hS hR hn hm h1 h2 h3
      · exact between_calls_3 atk apl au av avx avy ahd ahe aen aam aco awt asp asc anm aA an ac btk bpl bu bv bvx bvy bhd bhe ben bam bco bwt bsp bsc bnm bA bn bc t w ss rs hS hR hn hm h1 h2 h3
    · exact between_calls_2 atk apl au av avx avy ahd ahe aen aam aco awt asp asc anm aA an ac btk bpl bu bv bvx bvy bhd bhe ben bam bco bwt bsp bsc bnm bA bn bc t w ss rs hS hR hn hm h1 h2
  · exact between_calls_1 atk apl au av avx avy ahd ahe aen aam aco awt asp asc anm aA an ac btk bpl bu bv bvx bvy bhd bhe ben bam bco bwt bsp bsc bnm bA bn bc t w ss rs hS hR hn hm h1
end Go.Proofs.Ytjffkidfoapbjaa.Fl
