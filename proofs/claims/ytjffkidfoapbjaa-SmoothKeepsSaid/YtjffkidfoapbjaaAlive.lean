/- Proved: alive. -/
import Derived.Test.YtjffkidfoapbjaaMix
import Derived.Test.YtjffkidfoapbjaaOf
import Derived.Test.YtjffkidfoapbjaaOne
namespace Go.Proofs.Ytjffkidfoapbjaa.Fl
open Go.RowKit Go.Proofs.YtjffkidfoapbjaaW.PrintWords Go.Proofs.YtjffkidfoapbjaaW.PrintLast Go.Proofs.YtjffkidfoapbjaaW.PrintMore
set_option linter.unusedVariables false
set_option linter.unusedSimpArgs false
attribute [local go_sem] run_store_float

theorem m1 : mixS 0 1082130432 1056964608 = 1073741824 := by kernel_rfl
theorem m2 : mixS 0 1090519040 1056964608 = 1082130432 := by kernel_rfl
theorem m3 : mixA 1135542272 1092616192 1056964608 = 0 := by kernel_rfl
theorem m4 : fixF 65536 = 1065353216 := by kernel_rfl
theorem m5 : fixF (-32768) = 3204448256 := by kernel_rfl
theorem m6 : angF (Go.bits .and .i64 64 255) = 1119092736 := by kernel_rfl
theorem m7 : meanF [1065353216, 1073741824, 1086324736] = 1077936128 := by kernel_rfl
theorem n1 : nan 1073741824 = false := by kernel_rfl
theorem n2 : nan 1082130432 = false := by kernel_rfl
theorem n3 : nan 0 = false := by kernel_rfl
theorem n4 : nan 1065353216 = false := by kernel_rfl
theorem n5 : nan 3204448256 = false := by kernel_rfl
theorem n6 : nan 1119092736 = false := by kernel_rfl
theorem q7 : fcmp .eql 1077936128 1077936128 = true := by kernel_rfl
theorem n7 : nan 1077936128 = false := by kernel_rfl

theorem eq_float_at {P : Program} (w : World) (d : Nat) (t : TypeId) (hu : P.underlying t = some (.float .f32)) (x : Nat) (h : nan x = false) : (Op.equalIn (d + 1) t (.float .f32 x) (.float .f32 x)).run P w = .ok true w := by
  have h1 := ford_self h
  unfold ford at h1
  unfold Op.equalIn
  simp [run_underlying hu, Op.floatEq, FloatKind.format, h1]
theorem eq_float (w : World) (x : Nat) (h : nan x = false) : (Op.equalIn 9999 22 (.float .f32 x) (.float .f32 x)).run Try.prog w = .ok true w := eq_float_at w 9998 22 Try.underlying22 x h
theorem mix_alive (w : World) : Calls Try.prog 12 #[.agg #[.float .f32 0, .float .f32 0, .float .f32 1135542272], .agg #[.float .f32 1082130432, .float .f32 1090519040, .float .f32 1092616192], .float .f32 1056964608] w fun e w' => e = .returned (.agg #[.float .f32 1073741824, .float .f32 1082130432, .float .f32 0]) ∧ Below w.heap.size w w' := by
  refine (mix_calls _ _ _ _ _ _ _ w).mono ?_
  rintro e w2 ⟨x, y, z, hx, hy, hz, rfl, hb⟩
  rw [m1] at hx
  rw [m2] at hy
  rw [m3] at hz
  obtain rfl := hx.eq n1
  obtain rfl := hy.eq n2
  obtain rfl := hz.eq n3
  exact ⟨rfl, hb⟩
theorem of_alive (w : World) : Calls Try.prog 20 #[.agg #[.int .i64 65536, .int .i64 (-32768)], .int .i64 64] w fun e w' => e = .returned (.agg #[.float .f32 1065353216, .float .f32 3204448256, .float .f32 1119092736]) ∧ Below w.heap.size w w' := by
  refine (of_calls _ _ _ w).mono ?_
  rintro e w2 ⟨x, y, hx, hy, rfl, hb⟩
  rw [m4] at hx
  rw [m5] at hy
  obtain rfl := hx.eq n4
  obtain rfl := hy.eq n5
  exact ⟨by rw [m6], hb⟩
theorem mean_alive (w : World) (g : Nat) (h : w.heap[g]? = some (.cells #[.float .f32 1065353216, .float .f32 1073741824, .float .f32 1086324736] 22 (0, 0))) : Calls Try.prog 15 #[.slice (some ⟨g, 0, none⟩) 3 3] w fun e w' => e = .returned (.float .f32 1077936128) ∧ Drawn0 w w' := by
  refine (mean_calls (some ⟨g, 0, none⟩) 3 [1065353216, 1073741824, 1086324736] w (fun j hj => ⟨_, rfl, ?_⟩) (by decide)).mono ?_
  · rw [add_plain, blk_cell h]
    match j, hj with
    | 0, _ => rfl
    | 1, _ => rfl
    | 2, _ => rfl
  · rintro e w2 ⟨r, hr, rfl, hd⟩
    rw [m7] at hr
    obtain rfl := hr.eq n7
    exact ⟨rfl, hd⟩

set_option maxHeartbeats 4000000 in
set_option maxRecDepth 100000 in
theorem alive_calls (w : World) : Calls Try.prog 10 #[] w fun e w' => e = .returned (.bool true) ∧ Below w.heap.size w w' := by
  have hu24 := Try.underlying24
  have hu22 := Try.underlying22
  have e1 := fun w => eq_float w _ n1
  have e2 := fun w => eq_float w _ n2
  have e3 := fun w => eq_float w _ n3
  have e4 := fun w => eq_float w _ n4
  have e5 := fun w => eq_float w _ n5
  have e6 := fun w => eq_float w _ n6
  go_enter Try.func10, Try.ntmps10
  go_wp2_with (first
      | (go_at_call 12; refine (mix_alive _).mono ?_; rintro e w2 ⟨rfl, hB⟩)
      | (go_at_call 20; have X1 := blk_put (blk_put (blk_put Xg1 0 (.float .f32 1073741824) rfl) 1 (.float .f32 1082130432) rfl) 2 (.float .f32 0) rfl; refine (of_alive _).mono ?_; rintro e w5 ⟨rfl, hb⟩; have Xg1 := blk_below X1 hb; have hB := below_step (below_set (below_set (below_set hB hg1) hg1) hg1) hb; clear hb)
      | ((with_reducible refine gate_callee (f := 15) rfl ?_); (try (refine gate_guard (by rfl) ?_; dsimp only)); refine goesL_ _ rfl rfl Try.func15 (by kernel_rfl) rfl _ rfl (by (try simp only [List.map_toArray, List.map_cons, List.map_nil]); first | done | rfl) ?_; refine (mean_alive _ w9.heap.size (heap_alloc_new _ _)).mono ?_; rintro e wm ⟨rfl, hd⟩; refine ⟨_, rfl, ?_⟩; have hB := dbelow hd (below_alloc hB _))
      | ((with_reducible refine gate_dst (N := 8) rfl ?_); have Y1 := blk_far (blk_far (blk_far Xg1 (p := ⟨g2, 0, none⟩) hne (.float .f32 1065353216)) (p := ⟨g2, 1, none⟩) hne (.float .f32 3204448256)) (p := ⟨g2, 2, none⟩) hne (.float .f32 1119092736); have Y2 := blk_put (blk_put (blk_put Xg2 0 (.float .f32 1065353216) rfl) 1 (.float .f32 3204448256) rfl) 2 (.float .f32 1119092736) rfl; have hB := below_set (j := 2) (v := .float .f32 1119092736) (below_set (j := 1) (v := .float .f32 3204448256) (below_set (j := 0) (v := .float .f32 1065353216) hB hg2) hg2) hg2; clear Xg1 Xg2; generalize (((w6.setCell ⟨g2, 0, none⟩ (.float .f32 1065353216)).setCell ⟨g2, 1, none⟩ (.float .f32 3204448256)).setCell ⟨g2, 2, none⟩ (.float .f32 1119092736)) = w9 at Y1 Y2 hB ⊢; have cg1_0 : w9.cell? ⟨g1, 0, none⟩ = some (.float .f32 1073741824) := (blk_cell Y1 0).trans rfl; have cg1_1 : w9.cell? ⟨g1, 1, none⟩ = some (.float .f32 1082130432) := (blk_cell Y1 1).trans rfl; have cg1_2 : w9.cell? ⟨g1, 2, none⟩ = some (.float .f32 0) := (blk_cell Y1 2).trans rfl; have fg1_0 := blk_frozen Y1 0; have fg1_1 := blk_frozen Y1 1; have fg1_2 := blk_frozen Y1 2; have cg2_0 : w9.cell? ⟨g2, 0, none⟩ = some (.float .f32 1065353216) := (blk_cell Y2 0).trans rfl; have cg2_1 : w9.cell? ⟨g2, 1, none⟩ = some (.float .f32 3204448256) := (blk_cell Y2 1).trans rfl; have cg2_2 : w9.cell? ⟨g2, 2, none⟩ = some (.float .f32 1119092736) := (blk_cell Y2 2).trans rfl; have fg2_0 := blk_frozen Y2 0; have fg2_1 := blk_frozen Y2 1; have fg2_2 := blk_frozen Y2 2)
      | ((try (refine gate_guard (by rfl) ?_; dsimp only)); refine wpList_flc _ rfl _ _ _ _ _ rfl (by decide) _ _ _ _ rfl rfl (Fe.refl _) (Fe.refl _) ?_; rw [q7])
      | ((with_reducible refine gate_dst (N := 1) rfl ?_); refine box_event ?hg (N := 1) ?hd (cs := #[.float .f32 0, .float .f32 0, .float .f32 0]) (t := 24) ?hr ?_; (case hd => rfl); (case hg => rfl); (case hr => first | (go_simp; done) | (go_simp; rfl)); intro g1 eg1 w3 Xg1 Bg1; have hg1 : w.heap.size ≤ g1 := (by rw [eg1]; exact hB.size); have hB := below_step hB Bg1; clear eg1; have cg1_0 : w3.cell? ⟨g1, 0, none⟩ = some (.float .f32 0) := (blk_cell Xg1 0).trans rfl; have cg1_1 : w3.cell? ⟨g1, 1, none⟩ = some (.float .f32 0) := (blk_cell Xg1 1).trans rfl; have cg1_2 : w3.cell? ⟨g1, 2, none⟩ = some (.float .f32 0) := (blk_cell Xg1 2).trans rfl; have fg1_0 := blk_frozen Xg1 0; have fg1_1 := blk_frozen Xg1 1; have fg1_2 := blk_frozen Xg1 2)
      | ((with_reducible refine gate_dst (N := 2) rfl ?_); refine box_event ?hg (N := 2) ?hd (cs := #[.float .f32 0, .float .f32 0, .float .f32 0]) (t := 24) ?hr ?_; (case hd => rfl); (case hg => rfl); (case hr => first | (go_simp; done) | (go_simp; rfl)); intro g2 eg2 w6 Xg2 Bg2; have hg2 : w.heap.size ≤ g2 := (by rw [eg2]; exact hB.size); have hB := below_step hB Bg2; have hne : g1 ≠ g2 := (by rw [eg2]; exact Nat.ne_of_lt (blk_lt Xg1)); have Xg1 := blk_below Xg1 Bg2; clear eg2; have cg2_0 : w6.cell? ⟨g2, 0, none⟩ = some (.float .f32 0) := (blk_cell Xg2 0).trans rfl; have cg2_1 : w6.cell? ⟨g2, 1, none⟩ = some (.float .f32 0) := (blk_cell Xg2 1).trans rfl; have cg2_2 : w6.cell? ⟨g2, 2, none⟩ = some (.float .f32 0) := (blk_cell Xg2 2).trans rfl; have fg2_0 := blk_frozen Xg2 0; have fg2_1 := blk_frozen Xg2 1; have fg2_2 := blk_frozen Xg2 2))
  go_ret
  exact ⟨rfl, hB⟩
end Go.Proofs.Ytjffkidfoapbjaa.Fl
